/-
  WALKS: item.bare.
-/
import Derived.Test.YtenpgkkefielfaaItemW2
namespace Go.Proofs.Ytenpgkkefielfaa
open Go.RowKit

set_option maxHeartbeats 1000000 in
set_option maxRecDepth 100000 in
theorem bare1 (kind : Int) (ek : ByteArray) (ea ev ma n lo hi : Int) (rk : ByteArray) (rn rv : Int) (w : World) (b : Bool) (h : kind = 1) (hb : evB ek ea = b) :
    Calls Try.prog 63 #[.agg #[.int .i64 kind, .string ek, .int .i64 ea, .int .i64 ev, .int .i64 ma, .int .i64 n, .int .i64 lo, .int .i64 hi, .string rk, .int .i64 rn, .int .i64 rv]] w fun e w' => e = .returned (.tuple #[.agg #[.int .i64 1, .string ek, .int .i64 ea, .int .i64 ev, .int .i64 0, .int .i64 0, .int .i64 0, .int .i64 0, .string ⟨#[]⟩, .int .i64 0, .int .i64 0], .bool b]) ∧ Below w.heap.size w w' := by
  subst h
  have Hb := Lib.hid hb
  clear hb
  go_enter Try.func63, Try.ntmps63
  go_wp2_with fail
  go_region_with (first | (go_at_call 74; refine (event_any ek ea ev _ b Hb.out).mono ?_; rintro e w2 ⟨rfl, rfl⟩))
  all_goals go_wp2_with fail
  all_goals exact bodyPost_ret (v := .tuple #[.agg #[.int .i64 1, .string ek, .int .i64 ea, .int .i64 ev, .int .i64 0, .int .i64 0, .int .i64 0, .int .i64 0, .string ⟨#[]⟩, .int .i64 0, .int .i64 0], .bool b]) (by simp [results, Try.results63, go_sem]) rfl ⟨rfl, by repeat' (first | exact Below.refl _ _ | assumption | refine Below.drew ?_ | refine Below.setCell ?_ (by show w.heap.size ≤ _; simp; try omega) _ | refine bel_alloc ?_ _)⟩
set_option maxHeartbeats 1000000 in
set_option maxRecDepth 100000 in
theorem bare2 (kind : Int) (ek : ByteArray) (ea ev ma n lo hi : Int) (rk : ByteArray) (rn rv : Int) (w : World) (b : Bool) (h : kind = 2) (hb : (decide (0 ≤ ma) && decide (ma ≤ 1099511627776)) = b) :
    Calls Try.prog 63 #[.agg #[.int .i64 kind, .string ek, .int .i64 ea, .int .i64 ev, .int .i64 ma, .int .i64 n, .int .i64 lo, .int .i64 hi, .string rk, .int .i64 rn, .int .i64 rv]] w fun e w' => e = .returned (.tuple #[.agg #[.int .i64 2, .string ⟨#[]⟩, .int .i64 0, .int .i64 0, .int .i64 ma, .int .i64 0, .int .i64 0, .int .i64 0, .string ⟨#[]⟩, .int .i64 0, .int .i64 0], .bool b]) ∧ Below w.heap.size w w' := by
  subst h
  by_cases h0 : 0 ≤ ma
  · rw [decide_eq_true h0, Bool.true_and] at hb
    subst hb
    have g0 := decide_eq_true h0
    go_enter Try.func63, Try.ntmps63
    go_wp2_with fail
    go_region
    go_wp2_with fail
    exact bodyPost_ret (v := .tuple #[.agg #[.int .i64 2, .string ⟨#[]⟩, .int .i64 0, .int .i64 0, .int .i64 ma, .int .i64 0, .int .i64 0, .int .i64 0, .string ⟨#[]⟩, .int .i64 0, .int .i64 0], .bool (decide (ma ≤ 1099511627776))]) (by simp [results, Try.results63, go_sem]) rfl ⟨rfl, by repeat' (first | exact Below.refl _ _ | assumption | refine Below.drew ?_ | refine Below.setCell ?_ (by show w.heap.size ≤ _; simp; try omega) _ | refine bel_alloc ?_ _)⟩
  · rw [decide_eq_false h0, Bool.false_and] at hb
    subst hb
    have g0 := decide_eq_false h0
    go_enter Try.func63, Try.ntmps63
    go_wp2_with fail
    go_region
    go_wp2_with fail
    exact bodyPost_ret (v := .tuple #[.agg #[.int .i64 2, .string ⟨#[]⟩, .int .i64 0, .int .i64 0, .int .i64 ma, .int .i64 0, .int .i64 0, .int .i64 0, .string ⟨#[]⟩, .int .i64 0, .int .i64 0], .bool false]) (by simp [results, Try.results63, go_sem]) rfl ⟨rfl, by repeat' (first | exact Below.refl _ _ | assumption | refine Below.drew ?_ | refine Below.setCell ?_ (by show w.heap.size ≤ _; simp; try omega) _ | refine bel_alloc ?_ _)⟩
set_option maxHeartbeats 1000000 in
set_option maxRecDepth 100000 in
theorem bare3 (kind : Int) (ek : ByteArray) (ea ev ma n lo hi : Int) (rk : ByteArray) (rn rv : Int) (w : World) (b : Bool) (h : kind = 3) (hb : true = b) :
    Calls Try.prog 63 #[.agg #[.int .i64 kind, .string ek, .int .i64 ea, .int .i64 ev, .int .i64 ma, .int .i64 n, .int .i64 lo, .int .i64 hi, .string rk, .int .i64 rn, .int .i64 rv]] w fun e w' => e = .returned (.tuple #[.agg #[.int .i64 3, .string ⟨#[]⟩, .int .i64 0, .int .i64 0, .int .i64 0, .int .i64 0, .int .i64 0, .int .i64 0, .string ⟨#[]⟩, .int .i64 0, .int .i64 0], .bool b]) ∧ Below w.heap.size w w' := by
  subst h
  subst hb
  go_enter Try.func63, Try.ntmps63
  go_wp2_with fail
  exact bodyPost_ret (v := .tuple #[.agg #[.int .i64 3, .string ⟨#[]⟩, .int .i64 0, .int .i64 0, .int .i64 0, .int .i64 0, .int .i64 0, .int .i64 0, .string ⟨#[]⟩, .int .i64 0, .int .i64 0], .bool true]) (by simp [results, Try.results63, go_sem]) rfl ⟨rfl, by repeat' (first | exact Below.refl _ _ | assumption | refine Below.drew ?_ | refine Below.setCell ?_ (by show w.heap.size ≤ _; simp; try omega) _ | refine bel_alloc ?_ _)⟩
set_option maxHeartbeats 1000000 in
set_option maxRecDepth 100000 in
theorem bare4 (kind : Int) (ek : ByteArray) (ea ev ma n lo hi : Int) (rk : ByteArray) (rn rv : Int) (w : World) (b : Bool) (h : kind = 4) (hb : (decide (1 ≤ n) && decide (n ≤ 1073741824)) = b) :
    Calls Try.prog 63 #[.agg #[.int .i64 kind, .string ek, .int .i64 ea, .int .i64 ev, .int .i64 ma, .int .i64 n, .int .i64 lo, .int .i64 hi, .string rk, .int .i64 rn, .int .i64 rv]] w fun e w' => e = .returned (.tuple #[.agg #[.int .i64 4, .string ⟨#[]⟩, .int .i64 0, .int .i64 0, .int .i64 0, .int .i64 n, .int .i64 0, .int .i64 0, .string ⟨#[]⟩, .int .i64 0, .int .i64 0], .bool b]) ∧ Below w.heap.size w w' := by
  subst h
  by_cases h0 : 1 ≤ n
  · rw [decide_eq_true h0, Bool.true_and] at hb
    subst hb
    have g0 := decide_eq_true h0
    go_enter Try.func63, Try.ntmps63
    go_wp2_with fail
    go_region
    go_wp2_with fail
    exact bodyPost_ret (v := .tuple #[.agg #[.int .i64 4, .string ⟨#[]⟩, .int .i64 0, .int .i64 0, .int .i64 0, .int .i64 n, .int .i64 0, .int .i64 0, .string ⟨#[]⟩, .int .i64 0, .int .i64 0], .bool (decide (n ≤ 1073741824))]) (by simp [results, Try.results63, go_sem]) rfl ⟨rfl, by repeat' (first | exact Below.refl _ _ | assumption | refine Below.drew ?_ | refine Below.setCell ?_ (by show w.heap.size ≤ _; simp; try omega) _ | refine bel_alloc ?_ _)⟩
  · rw [decide_eq_false h0, Bool.false_and] at hb
    subst hb
    have g0 := decide_eq_false h0
    go_enter Try.func63, Try.ntmps63
    go_wp2_with fail
    go_region
    go_wp2_with fail
    exact bodyPost_ret (v := .tuple #[.agg #[.int .i64 4, .string ⟨#[]⟩, .int .i64 0, .int .i64 0, .int .i64 0, .int .i64 n, .int .i64 0, .int .i64 0, .string ⟨#[]⟩, .int .i64 0, .int .i64 0], .bool false]) (by simp [results, Try.results63, go_sem]) rfl ⟨rfl, by repeat' (first | exact Below.refl _ _ | assumption | refine Below.drew ?_ | refine Below.setCell ?_ (by show w.heap.size ≤ _; simp; try omega) _ | refine bel_alloc ?_ _)⟩
set_option maxHeartbeats 1000000 in
set_option maxRecDepth 100000 in
theorem bare5 (kind : Int) (ek : ByteArray) (ea ev ma n lo hi : Int) (rk : ByteArray) (rn rv : Int) (w : World) (b : Bool) (h : kind = 5) (hb : resB lo hi rk rn = b) :
    Calls Try.prog 63 #[.agg #[.int .i64 kind, .string ek, .int .i64 ea, .int .i64 ev, .int .i64 ma, .int .i64 n, .int .i64 lo, .int .i64 hi, .string rk, .int .i64 rn, .int .i64 rv]] w fun e w' => e = .returned (.tuple #[.agg #[.int .i64 5, .string ⟨#[]⟩, .int .i64 0, .int .i64 0, .int .i64 0, .int .i64 0, .int .i64 lo, .int .i64 hi, .string rk, .int .i64 rn, .int .i64 rv], .bool b]) ∧ Below w.heap.size w w' := by
  subst h
  have Hb := Lib.hid hb
  clear hb
  go_enter Try.func63, Try.ntmps63
  go_wp2_with fail
  go_region_with (first | (go_at_call 75; refine (result_any lo hi rk rn rv _ b Hb.out).mono ?_; rintro e w2 ⟨rfl, rfl⟩))
  all_goals go_wp2_with fail
  all_goals exact bodyPost_ret (v := .tuple #[.agg #[.int .i64 5, .string ⟨#[]⟩, .int .i64 0, .int .i64 0, .int .i64 0, .int .i64 0, .int .i64 lo, .int .i64 hi, .string rk, .int .i64 rn, .int .i64 rv], .bool b]) (by simp [results, Try.results63, go_sem]) rfl ⟨rfl, by repeat' (first | exact Below.refl _ _ | assumption | refine Below.drew ?_ | refine Below.setCell ?_ (by show w.heap.size ≤ _; simp; try omega) _ | refine bel_alloc ?_ _)⟩
set_option maxHeartbeats 1000000 in
set_option maxRecDepth 100000 in
theorem bare6 (kind : Int) (ek : ByteArray) (ea ev ma n lo hi : Int) (rk : ByteArray) (rn rv : Int) (w : World) (b : Bool) (h : ¬ (1 ≤ kind ∧ kind ≤ 5)) (hb : false = b) :
    Calls Try.prog 63 #[.agg #[.int .i64 kind, .string ek, .int .i64 ea, .int .i64 ev, .int .i64 ma, .int .i64 n, .int .i64 lo, .int .i64 hi, .string rk, .int .i64 rn, .int .i64 rv]] w fun e w' => e = .returned (.tuple #[.agg #[.int .i64 kind, .string ⟨#[]⟩, .int .i64 0, .int .i64 0, .int .i64 0, .int .i64 0, .int .i64 0, .int .i64 0, .string ⟨#[]⟩, .int .i64 0, .int .i64 0], .bool b]) ∧ Below w.heap.size w w' := by
  have k1 : (kind == (1 : Int)) = false := beq_eq_false_iff_ne.2 (by omega)
  have k2 : (kind == (2 : Int)) = false := beq_eq_false_iff_ne.2 (by omega)
  have k3 : (kind == (3 : Int)) = false := beq_eq_false_iff_ne.2 (by omega)
  have k4 : (kind == (4 : Int)) = false := beq_eq_false_iff_ne.2 (by omega)
  have k5 : (kind == (5 : Int)) = false := beq_eq_false_iff_ne.2 (by omega)
  clear h
  subst hb
  go_enter Try.func63, Try.ntmps63
  go_wp2_with fail
  exact bodyPost_ret (v := .tuple #[.agg #[.int .i64 kind, .string ⟨#[]⟩, .int .i64 0, .int .i64 0, .int .i64 0, .int .i64 0, .int .i64 0, .int .i64 0, .string ⟨#[]⟩, .int .i64 0, .int .i64 0], .bool false]) (by simp [results, Try.results63, go_sem]) rfl ⟨rfl, by repeat' (first | exact Below.refl _ _ | assumption | refine Below.drew ?_ | refine Below.setCell ?_ (by show w.heap.size ≤ _; simp; try omega) _ | refine bel_alloc ?_ _)⟩
end Go.Proofs.Ytenpgkkefielfaa
