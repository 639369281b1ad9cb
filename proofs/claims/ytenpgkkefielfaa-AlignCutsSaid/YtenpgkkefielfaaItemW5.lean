/-
  WALKS: the reference's Right.
-/
import Derived.Test.YtenpgkkefielfaaItemW4
namespace Go.Proofs.Ytenpgkkefielfaa
open Go.RowKit

set_option maxHeartbeats 2000000 in
set_option maxRecDepth 100000 in
theorem rright1 (kind : Int) (ek : ByteArray) (ea ev ma n lo hi : Int) (rk : ByteArray) (rn rv : Int) (w : World) (b : Bool) (h : kind = 1) (hb : (decide (ma = 0) && (decide (n = 0) && (((lo == 0 && hi == 0) && (rk.toList == (⟨#[]⟩ : ByteArray).toList && (rn == 0 && rv == 0))) && evB ek ea))) = b) :
    Calls Try.prog 52 #[.agg #[.int .i64 kind, .string ek, .int .i64 ea, .int .i64 ev, .int .i64 ma, .int .i64 n, .int .i64 lo, .int .i64 hi, .string rk, .int .i64 rn, .int .i64 rv]] w fun e w' => e = .returned (.bool b) ∧ Below w.heap.size w w' := by
  subst h
  obtain ⟨R0, hR0⟩ : ∃ R0, ((lo == 0 && hi == 0) && (rk.toList == (⟨#[]⟩ : ByteArray).toList && (rn == 0 && rv == 0))) = R0 := ⟨_, rfl⟩
  have hR := fun W => eq55 W 9997 rk ⟨#[]⟩ lo hi rn rv 0 0 0 0
  rw [hR0] at hb hR
  clear hR0
  obtain ⟨M0, hM0⟩ : ∃ M0, decide (ma = 0) = M0 := ⟨_, rfl⟩
  rw [hM0] at hb
  obtain ⟨N0, hN0⟩ : ∃ N0, decide (n = 0) = N0 := ⟨_, rfl⟩
  rw [hN0] at hb
  obtain ⟨q, hq⟩ : ∃ q, evB ek ea = q := ⟨_, rfl⟩
  rw [hq] at hb
  have Hq := Lib.hid hq
  clear hq
  cases M0 with
  | false =>
    rw [Bool.false_and] at hb
    subst hb
    have hx := of_decide_eq_false hM0
    have hy : (ma == 0) = false := beq_eq_false_iff_ne.2 hx
    clear hM0
    go_enter Try.func52, Try.ntmps52
    go_wp2_with fail
    go_ret
    exact ⟨rfl, by repeat' (first | exact Below.refl _ _ | assumption | refine Below.drew ?_ | refine bel_alloc ?_ _)⟩
  | true =>
    rw [Bool.true_and] at hb
    obtain rfl := of_decide_eq_true hM0
    clear hM0
    cases N0 with
    | false =>
      rw [Bool.false_and] at hb
      subst hb
      have hx := of_decide_eq_false hN0
      have hy : (n == 0) = false := beq_eq_false_iff_ne.2 hx
      clear hN0
      go_enter Try.func52, Try.ntmps52
      go_wp2_with fail
      go_ret
      exact ⟨rfl, by repeat' (first | exact Below.refl _ _ | assumption | refine Below.drew ?_ | refine bel_alloc ?_ _)⟩
    | true =>
      rw [Bool.true_and] at hb
      obtain rfl := of_decide_eq_true hN0
      clear hN0
      cases R0 with
      | false =>
        rw [Bool.false_and] at hb
        subst hb
        go_enter Try.func52, Try.ntmps52
        go_wp2_with fail
        go_ret
        exact ⟨rfl, by repeat' (first | exact Below.refl _ _ | assumption | refine Below.drew ?_ | refine bel_alloc ?_ _)⟩
      | true =>
        rw [Bool.true_and] at hb
        subst hb
        go_enter Try.func52, Try.ntmps52
        go_wp2_with fail
        refine (revent_any ek ea ev _ q Hq.out).mono ?_
        rintro e w2 ⟨rfl, rfl⟩
        go_wp2_with fail
        go_ret
        exact ⟨rfl, by repeat' (first | exact Below.refl _ _ | assumption | refine Below.drew ?_ | refine bel_alloc ?_ _)⟩
set_option maxHeartbeats 2000000 in
set_option maxRecDepth 100000 in
theorem rright2 (kind : Int) (ek : ByteArray) (ea ev ma n lo hi : Int) (rk : ByteArray) (rn rv : Int) (w : World) (b : Bool) (h : kind = 2) (hb : ((ek.toList == (⟨#[]⟩ : ByteArray).toList && (ea == 0 && ev == 0)) && (decide (n = 0) && (((lo == 0 && hi == 0) && (rk.toList == (⟨#[]⟩ : ByteArray).toList && (rn == 0 && rv == 0))) && (decide (0 ≤ ma) && decide (ma ≤ 1099511627776))))) = b) :
    Calls Try.prog 52 #[.agg #[.int .i64 kind, .string ek, .int .i64 ea, .int .i64 ev, .int .i64 ma, .int .i64 n, .int .i64 lo, .int .i64 hi, .string rk, .int .i64 rn, .int .i64 rv]] w fun e w' => e = .returned (.bool b) ∧ Below w.heap.size w w' := by
  subst h
  obtain ⟨E0, hE0⟩ : ∃ E0, (ek.toList == (⟨#[]⟩ : ByteArray).toList && (ea == 0 && ev == 0)) = E0 := ⟨_, rfl⟩
  have hE := fun W => eq51 W 9998 ek ⟨#[]⟩ ea 0 ev 0
  rw [hE0] at hb hE
  clear hE0
  obtain ⟨R0, hR0⟩ : ∃ R0, ((lo == 0 && hi == 0) && (rk.toList == (⟨#[]⟩ : ByteArray).toList && (rn == 0 && rv == 0))) = R0 := ⟨_, rfl⟩
  have hR := fun W => eq55 W 9997 rk ⟨#[]⟩ lo hi rn rv 0 0 0 0
  rw [hR0] at hb hR
  clear hR0
  obtain ⟨N0, hN0⟩ : ∃ N0, decide (n = 0) = N0 := ⟨_, rfl⟩
  rw [hN0] at hb
  cases E0 with
  | false =>
    rw [Bool.false_and] at hb
    subst hb
    go_enter Try.func52, Try.ntmps52
    go_wp2_with fail
    go_ret
    exact ⟨rfl, by repeat' (first | exact Below.refl _ _ | assumption | refine Below.drew ?_ | refine bel_alloc ?_ _)⟩
  | true =>
    rw [Bool.true_and] at hb
    cases N0 with
    | false =>
      rw [Bool.false_and] at hb
      subst hb
      have hx := of_decide_eq_false hN0
      have hy : (n == 0) = false := beq_eq_false_iff_ne.2 hx
      clear hN0
      go_enter Try.func52, Try.ntmps52
      go_wp2_with fail
      go_ret
      exact ⟨rfl, by repeat' (first | exact Below.refl _ _ | assumption | refine Below.drew ?_ | refine bel_alloc ?_ _)⟩
    | true =>
      rw [Bool.true_and] at hb
      obtain rfl := of_decide_eq_true hN0
      clear hN0
      cases R0 with
      | false =>
        rw [Bool.false_and] at hb
        subst hb
        go_enter Try.func52, Try.ntmps52
        go_wp2_with fail
        go_ret
        exact ⟨rfl, by repeat' (first | exact Below.refl _ _ | assumption | refine Below.drew ?_ | refine bel_alloc ?_ _)⟩
      | true =>
        rw [Bool.true_and] at hb
        by_cases h0 : 0 ≤ ma
        · rw [decide_eq_true h0, Bool.true_and] at hb
          have g0 := decide_eq_true h0
          subst hb
          go_enter Try.func52, Try.ntmps52
          go_wp2_with fail
          go_ret
          exact ⟨rfl, by repeat' (first | exact Below.refl _ _ | assumption | refine Below.drew ?_ | refine bel_alloc ?_ _)⟩
        · rw [decide_eq_false h0, Bool.false_and] at hb
          have g0 := decide_eq_false h0
          subst hb
          go_enter Try.func52, Try.ntmps52
          go_wp2_with fail
          go_ret
          exact ⟨rfl, by repeat' (first | exact Below.refl _ _ | assumption | refine Below.drew ?_ | refine bel_alloc ?_ _)⟩
set_option maxHeartbeats 2000000 in
set_option maxRecDepth 100000 in
theorem rright3 (kind : Int) (ek : ByteArray) (ea ev ma n lo hi : Int) (rk : ByteArray) (rn rv : Int) (w : World) (b : Bool) (h : kind = 3) (hb : ((ek.toList == (⟨#[]⟩ : ByteArray).toList && (ea == 0 && ev == 0)) && (decide (ma = 0) && (decide (n = 0) && (((lo == 0 && hi == 0) && (rk.toList == (⟨#[]⟩ : ByteArray).toList && (rn == 0 && rv == 0))) && true)))) = b) :
    Calls Try.prog 52 #[.agg #[.int .i64 kind, .string ek, .int .i64 ea, .int .i64 ev, .int .i64 ma, .int .i64 n, .int .i64 lo, .int .i64 hi, .string rk, .int .i64 rn, .int .i64 rv]] w fun e w' => e = .returned (.bool b) ∧ Below w.heap.size w w' := by
  subst h
  obtain ⟨E0, hE0⟩ : ∃ E0, (ek.toList == (⟨#[]⟩ : ByteArray).toList && (ea == 0 && ev == 0)) = E0 := ⟨_, rfl⟩
  have hE := fun W => eq51 W 9998 ek ⟨#[]⟩ ea 0 ev 0
  rw [hE0] at hb hE
  clear hE0
  obtain ⟨R0, hR0⟩ : ∃ R0, ((lo == 0 && hi == 0) && (rk.toList == (⟨#[]⟩ : ByteArray).toList && (rn == 0 && rv == 0))) = R0 := ⟨_, rfl⟩
  have hR := fun W => eq55 W 9997 rk ⟨#[]⟩ lo hi rn rv 0 0 0 0
  rw [hR0] at hb hR
  clear hR0
  obtain ⟨M0, hM0⟩ : ∃ M0, decide (ma = 0) = M0 := ⟨_, rfl⟩
  rw [hM0] at hb
  obtain ⟨N0, hN0⟩ : ∃ N0, decide (n = 0) = N0 := ⟨_, rfl⟩
  rw [hN0] at hb
  cases E0 with
  | false =>
    rw [Bool.false_and] at hb
    subst hb
    go_enter Try.func52, Try.ntmps52
    go_wp2_with fail
    go_ret
    exact ⟨rfl, by repeat' (first | exact Below.refl _ _ | assumption | refine Below.drew ?_ | refine bel_alloc ?_ _)⟩
  | true =>
    rw [Bool.true_and] at hb
    cases M0 with
    | false =>
      rw [Bool.false_and] at hb
      subst hb
      have hx := of_decide_eq_false hM0
      have hy : (ma == 0) = false := beq_eq_false_iff_ne.2 hx
      clear hM0
      go_enter Try.func52, Try.ntmps52
      go_wp2_with fail
      go_ret
      exact ⟨rfl, by repeat' (first | exact Below.refl _ _ | assumption | refine Below.drew ?_ | refine bel_alloc ?_ _)⟩
    | true =>
      rw [Bool.true_and] at hb
      obtain rfl := of_decide_eq_true hM0
      clear hM0
      cases N0 with
      | false =>
        rw [Bool.false_and] at hb
        subst hb
        have hx := of_decide_eq_false hN0
        have hy : (n == 0) = false := beq_eq_false_iff_ne.2 hx
        clear hN0
        go_enter Try.func52, Try.ntmps52
        go_wp2_with fail
        go_ret
        exact ⟨rfl, by repeat' (first | exact Below.refl _ _ | assumption | refine Below.drew ?_ | refine bel_alloc ?_ _)⟩
      | true =>
        rw [Bool.true_and] at hb
        obtain rfl := of_decide_eq_true hN0
        clear hN0
        cases R0 with
        | false =>
          rw [Bool.false_and] at hb
          subst hb
          go_enter Try.func52, Try.ntmps52
          go_wp2_with fail
          go_ret
          exact ⟨rfl, by repeat' (first | exact Below.refl _ _ | assumption | refine Below.drew ?_ | refine bel_alloc ?_ _)⟩
        | true =>
          rw [Bool.true_and] at hb
          subst hb
          go_enter Try.func52, Try.ntmps52
          go_wp2_with fail
          go_ret
          exact ⟨rfl, by repeat' (first | exact Below.refl _ _ | assumption | refine Below.drew ?_ | refine bel_alloc ?_ _)⟩
set_option maxHeartbeats 2000000 in
set_option maxRecDepth 100000 in
theorem rright4 (kind : Int) (ek : ByteArray) (ea ev ma n lo hi : Int) (rk : ByteArray) (rn rv : Int) (w : World) (b : Bool) (h : kind = 4) (hb : ((ek.toList == (⟨#[]⟩ : ByteArray).toList && (ea == 0 && ev == 0)) && (decide (ma = 0) && (((lo == 0 && hi == 0) && (rk.toList == (⟨#[]⟩ : ByteArray).toList && (rn == 0 && rv == 0))) && (decide (1 ≤ n) && decide (n ≤ 1073741824))))) = b) :
    Calls Try.prog 52 #[.agg #[.int .i64 kind, .string ek, .int .i64 ea, .int .i64 ev, .int .i64 ma, .int .i64 n, .int .i64 lo, .int .i64 hi, .string rk, .int .i64 rn, .int .i64 rv]] w fun e w' => e = .returned (.bool b) ∧ Below w.heap.size w w' := by
  subst h
  obtain ⟨E0, hE0⟩ : ∃ E0, (ek.toList == (⟨#[]⟩ : ByteArray).toList && (ea == 0 && ev == 0)) = E0 := ⟨_, rfl⟩
  have hE := fun W => eq51 W 9998 ek ⟨#[]⟩ ea 0 ev 0
  rw [hE0] at hb hE
  clear hE0
  obtain ⟨R0, hR0⟩ : ∃ R0, ((lo == 0 && hi == 0) && (rk.toList == (⟨#[]⟩ : ByteArray).toList && (rn == 0 && rv == 0))) = R0 := ⟨_, rfl⟩
  have hR := fun W => eq55 W 9997 rk ⟨#[]⟩ lo hi rn rv 0 0 0 0
  rw [hR0] at hb hR
  clear hR0
  obtain ⟨M0, hM0⟩ : ∃ M0, decide (ma = 0) = M0 := ⟨_, rfl⟩
  rw [hM0] at hb
  cases E0 with
  | false =>
    rw [Bool.false_and] at hb
    subst hb
    go_enter Try.func52, Try.ntmps52
    go_wp2_with fail
    go_ret
    exact ⟨rfl, by repeat' (first | exact Below.refl _ _ | assumption | refine Below.drew ?_ | refine bel_alloc ?_ _)⟩
  | true =>
    rw [Bool.true_and] at hb
    cases M0 with
    | false =>
      rw [Bool.false_and] at hb
      subst hb
      have hx := of_decide_eq_false hM0
      have hy : (ma == 0) = false := beq_eq_false_iff_ne.2 hx
      clear hM0
      go_enter Try.func52, Try.ntmps52
      go_wp2_with fail
      go_ret
      exact ⟨rfl, by repeat' (first | exact Below.refl _ _ | assumption | refine Below.drew ?_ | refine bel_alloc ?_ _)⟩
    | true =>
      rw [Bool.true_and] at hb
      obtain rfl := of_decide_eq_true hM0
      clear hM0
      cases R0 with
      | false =>
        rw [Bool.false_and] at hb
        subst hb
        go_enter Try.func52, Try.ntmps52
        go_wp2_with fail
        go_ret
        exact ⟨rfl, by repeat' (first | exact Below.refl _ _ | assumption | refine Below.drew ?_ | refine bel_alloc ?_ _)⟩
      | true =>
        rw [Bool.true_and] at hb
        by_cases h0 : 1 ≤ n
        · rw [decide_eq_true h0, Bool.true_and] at hb
          have g0 := decide_eq_true h0
          subst hb
          go_enter Try.func52, Try.ntmps52
          go_wp2_with fail
          go_ret
          exact ⟨rfl, by repeat' (first | exact Below.refl _ _ | assumption | refine Below.drew ?_ | refine bel_alloc ?_ _)⟩
        · rw [decide_eq_false h0, Bool.false_and] at hb
          have g0 := decide_eq_false h0
          subst hb
          go_enter Try.func52, Try.ntmps52
          go_wp2_with fail
          go_ret
          exact ⟨rfl, by repeat' (first | exact Below.refl _ _ | assumption | refine Below.drew ?_ | refine bel_alloc ?_ _)⟩
set_option maxHeartbeats 2000000 in
set_option maxRecDepth 100000 in
theorem rright5 (kind : Int) (ek : ByteArray) (ea ev ma n lo hi : Int) (rk : ByteArray) (rn rv : Int) (w : World) (b : Bool) (h : kind = 5) (hb : ((ek.toList == (⟨#[]⟩ : ByteArray).toList && (ea == 0 && ev == 0)) && (decide (ma = 0) && (decide (n = 0) && resB lo hi rk rn))) = b) :
    Calls Try.prog 52 #[.agg #[.int .i64 kind, .string ek, .int .i64 ea, .int .i64 ev, .int .i64 ma, .int .i64 n, .int .i64 lo, .int .i64 hi, .string rk, .int .i64 rn, .int .i64 rv]] w fun e w' => e = .returned (.bool b) ∧ Below w.heap.size w w' := by
  subst h
  obtain ⟨E0, hE0⟩ : ∃ E0, (ek.toList == (⟨#[]⟩ : ByteArray).toList && (ea == 0 && ev == 0)) = E0 := ⟨_, rfl⟩
  have hE := fun W => eq51 W 9998 ek ⟨#[]⟩ ea 0 ev 0
  rw [hE0] at hb hE
  clear hE0
  obtain ⟨M0, hM0⟩ : ∃ M0, decide (ma = 0) = M0 := ⟨_, rfl⟩
  rw [hM0] at hb
  obtain ⟨N0, hN0⟩ : ∃ N0, decide (n = 0) = N0 := ⟨_, rfl⟩
  rw [hN0] at hb
  obtain ⟨q, hq⟩ : ∃ q, resB lo hi rk rn = q := ⟨_, rfl⟩
  rw [hq] at hb
  have Hq := Lib.hid hq
  clear hq
  cases E0 with
  | false =>
    rw [Bool.false_and] at hb
    subst hb
    go_enter Try.func52, Try.ntmps52
    go_wp2_with fail
    go_ret
    exact ⟨rfl, by repeat' (first | exact Below.refl _ _ | assumption | refine Below.drew ?_ | refine bel_alloc ?_ _)⟩
  | true =>
    rw [Bool.true_and] at hb
    cases M0 with
    | false =>
      rw [Bool.false_and] at hb
      subst hb
      have hx := of_decide_eq_false hM0
      have hy : (ma == 0) = false := beq_eq_false_iff_ne.2 hx
      clear hM0
      go_enter Try.func52, Try.ntmps52
      go_wp2_with fail
      go_ret
      exact ⟨rfl, by repeat' (first | exact Below.refl _ _ | assumption | refine Below.drew ?_ | refine bel_alloc ?_ _)⟩
    | true =>
      rw [Bool.true_and] at hb
      obtain rfl := of_decide_eq_true hM0
      clear hM0
      cases N0 with
      | false =>
        rw [Bool.false_and] at hb
        subst hb
        have hx := of_decide_eq_false hN0
        have hy : (n == 0) = false := beq_eq_false_iff_ne.2 hx
        clear hN0
        go_enter Try.func52, Try.ntmps52
        go_wp2_with fail
        go_ret
        exact ⟨rfl, by repeat' (first | exact Below.refl _ _ | assumption | refine Below.drew ?_ | refine bel_alloc ?_ _)⟩
      | true =>
        rw [Bool.true_and] at hb
        obtain rfl := of_decide_eq_true hN0
        clear hN0
        subst hb
        go_enter Try.func52, Try.ntmps52
        go_wp2_with fail
        refine (rresult_any lo hi rk rn rv _ q Hq.out).mono ?_
        rintro e w2 ⟨rfl, rfl⟩
        go_wp2_with fail
        go_ret
        exact ⟨rfl, by repeat' (first | exact Below.refl _ _ | assumption | refine Below.drew ?_ | refine bel_alloc ?_ _)⟩
set_option maxHeartbeats 2000000 in
set_option maxRecDepth 100000 in
theorem rright6 (kind : Int) (ek : ByteArray) (ea ev ma n lo hi : Int) (rk : ByteArray) (rn rv : Int) (w : World) (h : ¬ (1 ≤ kind ∧ kind ≤ 5)) :
    Calls Try.prog 52 #[.agg #[.int .i64 kind, .string ek, .int .i64 ea, .int .i64 ev, .int .i64 ma, .int .i64 n, .int .i64 lo, .int .i64 hi, .string rk, .int .i64 rn, .int .i64 rv]] w fun e w' => e = .returned (.bool false) ∧ Below w.heap.size w w' := by
  by_cases h1 : kind < 1
  · have g1 := decide_eq_true h1
    clear h
    go_enter Try.func52, Try.ntmps52
    go_wp2_with fail
    go_ret
    exact ⟨rfl, by repeat' (first | exact Below.refl _ _ | assumption | refine Below.drew ?_ | refine bel_alloc ?_ _)⟩
  · have g1 := decide_eq_false h1
    have g2 : decide (5 < kind) = true := decide_eq_true (by omega)
    clear h
    go_enter Try.func52, Try.ntmps52
    go_wp2_with fail
    go_ret
    exact ⟨rfl, by repeat' (first | exact Below.refl _ _ | assumption | refine Below.drew ?_ | refine bel_alloc ?_ _)⟩
end Go.Proofs.Ytenpgkkefielfaa
