/-
  WALKS: the reference's Bytes.
-/
import Derived.Test.YtgpifbdjcoiilaaItemW11
import Derived.Deep.RegionHeld3
namespace Go.Proofs.Ytgpifbdjcoiilaa
open Go.RowKit

theorem keepB11 (c0 c1 c2 c3 c4 c5 c6 c7 c8 c9 c10 : Value) {g : Nat} {W w' w2 : World} (hp : g < W.heap.size) (h : Below W.heap.size W w' ∧ w'.cell? ⟨g, 0, none⟩ = some (c0) ∧ w'.cell? ⟨g, 1, none⟩ = some (c1) ∧ w'.cell? ⟨g, 2, none⟩ = some (c2) ∧ w'.cell? ⟨g, 3, none⟩ = some (c3) ∧ w'.cell? ⟨g, 4, none⟩ = some (c4) ∧ w'.cell? ⟨g, 5, none⟩ = some (c5) ∧ w'.cell? ⟨g, 6, none⟩ = some (c6) ∧ w'.cell? ⟨g, 7, none⟩ = some (c7) ∧ w'.cell? ⟨g, 8, none⟩ = some (c8) ∧ w'.cell? ⟨g, 9, none⟩ = some (c9) ∧ w'.cell? ⟨g, 10, none⟩ = some (c10)) (hb : Below w'.heap.size w' w2) : Below W.heap.size W w2 ∧ w2.cell? ⟨g, 0, none⟩ = some (c0) ∧ w2.cell? ⟨g, 1, none⟩ = some (c1) ∧ w2.cell? ⟨g, 2, none⟩ = some (c2) ∧ w2.cell? ⟨g, 3, none⟩ = some (c3) ∧ w2.cell? ⟨g, 4, none⟩ = some (c4) ∧ w2.cell? ⟨g, 5, none⟩ = some (c5) ∧ w2.cell? ⟨g, 6, none⟩ = some (c6) ∧ w2.cell? ⟨g, 7, none⟩ = some (c7) ∧ w2.cell? ⟨g, 8, none⟩ = some (c8) ∧ w2.cell? ⟨g, 9, none⟩ = some (c9) ∧ w2.cell? ⟨g, 10, none⟩ = some (c10) := by
  obtain ⟨hB0, h0, h1, h2, h3, h4, h5, h6, h7, h8, h9, h10⟩ := h
  exact ⟨hB0.trans (hb.mono hB0.size), cell_keep hb hB0 hp h0, cell_keep hb hB0 hp h1, cell_keep hb hB0 hp h2, cell_keep hb hB0 hp h3, cell_keep hb hB0 hp h4, cell_keep hb hB0 hp h5, cell_keep hb hB0 hp h6, cell_keep hb hB0 hp h7, cell_keep hb hB0 hp h8, cell_keep hb hB0 hp h9, cell_keep hb hB0 hp h10⟩
theorem keepD11 (c0 c1 c2 c3 c4 c5 c6 c7 c8 c9 c10 : Value) {g : Nat} {W w' : World} (h : Below W.heap.size W w' ∧ w'.cell? ⟨g, 0, none⟩ = some (c0) ∧ w'.cell? ⟨g, 1, none⟩ = some (c1) ∧ w'.cell? ⟨g, 2, none⟩ = some (c2) ∧ w'.cell? ⟨g, 3, none⟩ = some (c3) ∧ w'.cell? ⟨g, 4, none⟩ = some (c4) ∧ w'.cell? ⟨g, 5, none⟩ = some (c5) ∧ w'.cell? ⟨g, 6, none⟩ = some (c6) ∧ w'.cell? ⟨g, 7, none⟩ = some (c7) ∧ w'.cell? ⟨g, 8, none⟩ = some (c8) ∧ w'.cell? ⟨g, 9, none⟩ = some (c9) ∧ w'.cell? ⟨g, 10, none⟩ = some (c10)) : Below W.heap.size W w'.drew ∧ w'.drew.cell? ⟨g, 0, none⟩ = some (c0) ∧ w'.drew.cell? ⟨g, 1, none⟩ = some (c1) ∧ w'.drew.cell? ⟨g, 2, none⟩ = some (c2) ∧ w'.drew.cell? ⟨g, 3, none⟩ = some (c3) ∧ w'.drew.cell? ⟨g, 4, none⟩ = some (c4) ∧ w'.drew.cell? ⟨g, 5, none⟩ = some (c5) ∧ w'.drew.cell? ⟨g, 6, none⟩ = some (c6) ∧ w'.drew.cell? ⟨g, 7, none⟩ = some (c7) ∧ w'.drew.cell? ⟨g, 8, none⟩ = some (c8) ∧ w'.drew.cell? ⟨g, 9, none⟩ = some (c9) ∧ w'.drew.cell? ⟨g, 10, none⟩ = some (c10) := ⟨h.1.drew, h.2⟩
set_option maxHeartbeats 4000000 in
set_option maxRecDepth 100000 in
theorem rbytes3 (kind : Int) (ek : ByteArray) (ea ev ma n lo hi : Int) (rk : ByteArray) (rn rv : Int) (w : World) (h : kind = 3) (d0 : ByteArray) (hd0 : digS (3 : Int).toNat = d0) :
    Calls Try.prog 52 #[.agg #[.int .i64 kind, .string ek, .int .i64 ea, .int .i64 ev, .int .i64 ma, .int .i64 n, .int .i64 lo, .int .i64 hi, .string rk, .int .i64 rn, .int .i64 rv]] w fun e w' => e = .returned (.string d0) ∧ Below w.heap.size w w' := by
  subst h
  have z0 : d0.size ≤ 10 := by rw [← hd0]; exact dig10 (by decide)
  have HC0 := Lib.hid (fun W => r4num 3 W d0 (by decide) (by decide) hd0)
  clear hd0
  go_enter Try.func52, Try.ntmps52
  go_wp2_with fail
  refine (HC0.out _).mono ?_
  rintro e w1 ⟨rfl, hb⟩
  have K1 : w1.heap[w.heap.size]? = some (.cells #[.int .i64 3, .string ek, .int .i64 ea, .int .i64 ev, .int .i64 ma, .int .i64 n, .int .i64 lo, .int .i64 hi, .string rk, .int .i64 rn, .int .i64 rv] 57 (0, 0)) := (hb.block w.heap.size (by simp)).trans (heap_alloc_new w _)
  have HB1 : Hid (Below w.heap.size w w1) := Lib.hid ((bel_alloc (Below.refl _ _) _).trans (hb.mono (bel_alloc (Below.refl _ _) _).size))
  obtain ⟨c0, c1, c2, c3, c4, c5, c6, c7, c8, c9, c10⟩ := eleven K1
  have hgl : w.heap.size < w1.heap.size := hlt K1
  clear hb K1
  go_wp2_with fail
  go_ret
  exact ⟨rfl, HB1.out⟩
set_option maxHeartbeats 4000000 in
set_option maxRecDepth 100000 in
theorem rbytes2 (kind : Int) (ek : ByteArray) (ea ev ma n lo hi : Int) (rk : ByteArray) (rn rv : Int) (w : World) (h : kind = 2) (d0 : ByteArray) (hd0 : digS (2 : Int).toNat = d0) (d1 : ByteArray) (hd1 : digS (ma : Int).toNat = d1) (p1 : 0 ≤ ma) (q1 : ma ≤ 1099511627776) :
    Calls Try.prog 52 #[.agg #[.int .i64 kind, .string ek, .int .i64 ea, .int .i64 ev, .int .i64 ma, .int .i64 n, .int .i64 lo, .int .i64 hi, .string rk, .int .i64 rn, .int .i64 rv]] w fun e w' => e = .returned (.string (d0 ++ d1)) ∧ Below w.heap.size w w' := by
  subst h
  have z0 : d0.size ≤ 10 := by rw [← hd0]; exact dig10 (by decide)
  have HC0 := Lib.hid (fun W => r4num 2 W d0 (by decide) (by decide) hd0)
  have z1 : d1.size ≤ 10 := by rw [← hd1]; exact dig10 (by omega)
  have HC1 := Lib.hid (fun W => r4num ma W d1 p1 (Int.le_trans q1 (by decide)) hd1)
  have n1 : ¬ (9223372036854775807 < d0.size + d1.size) := by omega
  have m1 : ¬ (d0.size + d1.size > 9223372036854775807) := by omega
  clear z1
  clear hd0 hd1 p1 q1
  go_enter Try.func52, Try.ntmps52
  go_wp2_with fail
  refine (HC0.out _).mono ?_
  rintro e w1 ⟨rfl, hb⟩
  have K1 : w1.heap[w.heap.size]? = some (.cells #[.int .i64 2, .string ek, .int .i64 ea, .int .i64 ev, .int .i64 ma, .int .i64 n, .int .i64 lo, .int .i64 hi, .string rk, .int .i64 rn, .int .i64 rv] 57 (0, 0)) := (hb.block w.heap.size (by simp)).trans (heap_alloc_new w _)
  have HB1 : Hid (Below w.heap.size w w1) := Lib.hid ((bel_alloc (Below.refl _ _) _).trans (hb.mono (bel_alloc (Below.refl _ _) _).size))
  obtain ⟨c0, c1, c2, c3, c4, c5, c6, c7, c8, c9, c10⟩ := eleven K1
  have hgl : w.heap.size < w1.heap.size := hlt K1
  clear hb K1
  go_wp2_with fail
  refine (HC1.out _).mono ?_
  rintro e w2 ⟨rfl, hb⟩
  have HB2 := Lib.hid (HB1.out.trans (hb.mono HB1.out.size))
  clear hb c0 c1 c2 c3 c4 c5 c6 c7 c8 c9 c10
  go_wp2_with fail
  go_ret
  exact ⟨rfl, HB2.out⟩
set_option maxHeartbeats 4000000 in
set_option maxRecDepth 100000 in
theorem rbytes4 (kind : Int) (ek : ByteArray) (ea ev ma n lo hi : Int) (rk : ByteArray) (rn rv : Int) (w : World) (h : kind = 4) (d0 : ByteArray) (hd0 : digS (4 : Int).toNat = d0) (d1 : ByteArray) (hd1 : digS (n : Int).toNat = d1) (p1 : 0 ≤ n) (q1 : n ≤ 1099511627776) :
    Calls Try.prog 52 #[.agg #[.int .i64 kind, .string ek, .int .i64 ea, .int .i64 ev, .int .i64 ma, .int .i64 n, .int .i64 lo, .int .i64 hi, .string rk, .int .i64 rn, .int .i64 rv]] w fun e w' => e = .returned (.string (d0 ++ d1)) ∧ Below w.heap.size w w' := by
  subst h
  have z0 : d0.size ≤ 10 := by rw [← hd0]; exact dig10 (by decide)
  have HC0 := Lib.hid (fun W => r4num 4 W d0 (by decide) (by decide) hd0)
  have z1 : d1.size ≤ 10 := by rw [← hd1]; exact dig10 (by omega)
  have HC1 := Lib.hid (fun W => r4num n W d1 p1 (Int.le_trans q1 (by decide)) hd1)
  have n1 : ¬ (9223372036854775807 < d0.size + d1.size) := by omega
  have m1 : ¬ (d0.size + d1.size > 9223372036854775807) := by omega
  clear z1
  clear hd0 hd1 p1 q1
  go_enter Try.func52, Try.ntmps52
  go_wp2_with fail
  refine (HC0.out _).mono ?_
  rintro e w1 ⟨rfl, hb⟩
  have K1 : w1.heap[w.heap.size]? = some (.cells #[.int .i64 4, .string ek, .int .i64 ea, .int .i64 ev, .int .i64 ma, .int .i64 n, .int .i64 lo, .int .i64 hi, .string rk, .int .i64 rn, .int .i64 rv] 57 (0, 0)) := (hb.block w.heap.size (by simp)).trans (heap_alloc_new w _)
  have HB1 : Hid (Below w.heap.size w w1) := Lib.hid ((bel_alloc (Below.refl _ _) _).trans (hb.mono (bel_alloc (Below.refl _ _) _).size))
  obtain ⟨c0, c1, c2, c3, c4, c5, c6, c7, c8, c9, c10⟩ := eleven K1
  have hgl : w.heap.size < w1.heap.size := hlt K1
  clear hb K1
  go_wp2_with fail
  refine (HC1.out _).mono ?_
  rintro e w2 ⟨rfl, hb⟩
  have HB2 := Lib.hid (HB1.out.trans (hb.mono HB1.out.size))
  clear hb c0 c1 c2 c3 c4 c5 c6 c7 c8 c9 c10
  go_wp2_with fail
  go_ret
  exact ⟨rfl, HB2.out⟩
set_option maxHeartbeats 4000000 in
set_option maxRecDepth 100000 in
theorem rbytes1 (kind : Int) (ek : ByteArray) (ea ev ma n lo hi : Int) (rk : ByteArray) (rn rv : Int) (w : World) (h : kind = 1) (d0 : ByteArray) (hd0 : digS (1 : Int).toNat = d0) (d1 : ByteArray) (hd1 : digS ek.size ++ ek = d1) (p1 : ek.size ≤ 16) (d2 : ByteArray) (hd2 : digS (ea : Int).toNat = d2) (p2 : 0 ≤ ea) (q2 : ea ≤ 1099511627776) (d3 : ByteArray) (hd3 : digS (zz ev) = d3) (p3 : -9223372036854775808 ≤ ev) (q3 : ev ≤ 9223372036854775807) :
    Calls Try.prog 52 #[.agg #[.int .i64 kind, .string ek, .int .i64 ea, .int .i64 ev, .int .i64 ma, .int .i64 n, .int .i64 lo, .int .i64 hi, .string rk, .int .i64 rn, .int .i64 rv]] w fun e w' => e = .returned (.string (((d0 ++ d1) ++ d2) ++ d3)) ∧ Below w.heap.size w w' := by
  subst h
  have z0 : d0.size ≤ 10 := by rw [← hd0]; exact dig10 (by decide)
  have HC0 := Lib.hid (fun W => r4num 1 W d0 (by decide) (by decide) hd0)
  have z1 : d1.size ≤ 26 := by
    have := dig10 (n := ek.size) (by omega)
    rw [← hd1, ByteArray.size_append]; omega
  have HC1 := Lib.hid (fun W => r4text ek W d1 p1 hd1)
  have z2 : d2.size ≤ 10 := by rw [← hd2]; exact dig10 (by omega)
  have HC2 := Lib.hid (fun W => r4num ea W d2 p2 (Int.le_trans q2 (by decide)) hd2)
  have z3 : d3.size ≤ 10 := by rw [← hd3]; exact dig10 (zz_lt p3 q3)
  have HC3 := Lib.hid (fun W => r4whole ev W d3 p3 q3 hd3)
  have n1 : ¬ (9223372036854775807 < d0.size + d1.size) := by omega
  have m1 : ¬ (d0.size + d1.size > 9223372036854775807) := by omega
  have n2 : ¬ (9223372036854775807 < d0.size + d1.size + d2.size) := by omega
  have m2 : ¬ (d0.size + d1.size + d2.size > 9223372036854775807) := by omega
  have n3 : ¬ (9223372036854775807 < d0.size + d1.size + d2.size + d3.size) := by omega
  have m3 : ¬ (d0.size + d1.size + d2.size + d3.size > 9223372036854775807) := by omega
  clear z1
  clear z2
  clear z3
  clear hd0 hd1 p1 hd2 p2 q2 hd3 p3 q3
  go_enter Try.func52, Try.ntmps52
  go_wp2_with fail
  refine (HC0.out _).mono ?_
  rintro e w1 ⟨rfl, hb⟩
  have K1 : w1.heap[w.heap.size]? = some (.cells #[.int .i64 1, .string ek, .int .i64 ea, .int .i64 ev, .int .i64 ma, .int .i64 n, .int .i64 lo, .int .i64 hi, .string rk, .int .i64 rn, .int .i64 rv] 57 (0, 0)) := (hb.block w.heap.size (by simp)).trans (heap_alloc_new w _)
  have HB1 : Hid (Below w.heap.size w w1) := Lib.hid ((bel_alloc (Below.refl _ _) _).trans (hb.mono (bel_alloc (Below.refl _ _) _).size))
  obtain ⟨c0, c1, c2, c3, c4, c5, c6, c7, c8, c9, c10⟩ := eleven K1
  have hgl : w.heap.size < w1.heap.size := hlt K1
  clear hb K1
  go_wp2_with fail
  obtain ⟨g, hg⟩ : ∃ g, g = w.heap.size := ⟨_, rfl⟩
  rw [← hg] at c0 c1 c2 c3 c4 c5 c6 c7 c8 c9 c10 hgl
  rw [← hg]
  clear hg
  obtain ⟨W, hW⟩ : ∃ W, W = w1 := ⟨_, rfl⟩
  subst hW
  have hS0 : Below W.heap.size W W ∧ W.cell? ⟨g, 0, none⟩ = some (.int .i64 1) ∧ W.cell? ⟨g, 1, none⟩ = some (.string ek) ∧ W.cell? ⟨g, 2, none⟩ = some (.int .i64 ea) ∧ W.cell? ⟨g, 3, none⟩ = some (.int .i64 ev) ∧ W.cell? ⟨g, 4, none⟩ = some (.int .i64 ma) ∧ W.cell? ⟨g, 5, none⟩ = some (.int .i64 n) ∧ W.cell? ⟨g, 6, none⟩ = some (.int .i64 lo) ∧ W.cell? ⟨g, 7, none⟩ = some (.int .i64 hi) ∧ W.cell? ⟨g, 8, none⟩ = some (.string rk) ∧ W.cell? ⟨g, 9, none⟩ = some (.int .i64 rn) ∧ W.cell? ⟨g, 10, none⟩ = some (.int .i64 rv) := ⟨Below.refl _ _, c0, c1, c2, c3, c4, c5, c6, c7, c8, c9, c10⟩
  clear c0 c1 c2 c3 c4 c5 c6 c7 c8 c9 c10
  go_region_held3 (fun w' => Below W.heap.size W w' ∧ w'.cell? ⟨g, 0, none⟩ = some (.int .i64 1) ∧ w'.cell? ⟨g, 1, none⟩ = some (.string ek) ∧ w'.cell? ⟨g, 2, none⟩ = some (.int .i64 ea) ∧ w'.cell? ⟨g, 3, none⟩ = some (.int .i64 ev) ∧ w'.cell? ⟨g, 4, none⟩ = some (.int .i64 ma) ∧ w'.cell? ⟨g, 5, none⟩ = some (.int .i64 n) ∧ w'.cell? ⟨g, 6, none⟩ = some (.int .i64 lo) ∧ w'.cell? ⟨g, 7, none⟩ = some (.int .i64 hi) ∧ w'.cell? ⟨g, 8, none⟩ = some (.string rk) ∧ w'.cell? ⟨g, 9, none⟩ = some (.int .i64 rn) ∧ w'.cell? ⟨g, 10, none⟩ = some (.int .i64 rv)) (first | assumption | exact keepD11 _ _ _ _ _ _ _ _ _ _ _ (by assumption) | exact keepB11 _ _ _ _ _ _ _ _ _ _ _ (by assumption) (by assumption) (by assumption)) (first | (go_at_call 72; refine (HC1.out _).mono ?_; rintro e w2 ⟨rfl, hb2⟩) | (go_at_call 71; refine (HC2.out _).mono ?_; rintro e w2 ⟨rfl, hb2⟩) | (go_at_call 73; refine (HC3.out _).mono ?_; rintro e w2 ⟨rfl, hb2⟩))
  go_wp2_with fail
  go_ret
  exact ⟨rfl, HB1.out.trans (Below.mono (by first | assumption | exact And.left (by assumption)) HB1.out.size)⟩
set_option maxHeartbeats 4000000 in
set_option maxRecDepth 100000 in
theorem rbytes5 (kind : Int) (ek : ByteArray) (ea ev ma n lo hi : Int) (rk : ByteArray) (rn rv : Int) (w : World) (h : kind = 5) (d0 : ByteArray) (hd0 : digS (5 : Int).toNat = d0) (d1 : ByteArray) (hd1 : digS rk.size ++ rk = d1) (p1 : rk.size ≤ 16) (d2 : ByteArray) (hd2 : digS (lo : Int).toNat = d2) (p2 : 0 ≤ lo) (q2 : lo ≤ 1099511627776) (d3 : ByteArray) (hd3 : digS (hi : Int).toNat = d3) (p3 : 0 ≤ hi) (q3 : hi ≤ 1099511627776) (d4 : ByteArray) (hd4 : digS (rn : Int).toNat = d4) (p4 : 0 ≤ rn) (q4 : rn ≤ 1099511627776) (d5 : ByteArray) (hd5 : digS (zz rv) = d5) (p5 : -9223372036854775808 ≤ rv) (q5 : rv ≤ 9223372036854775807) :
    Calls Try.prog 52 #[.agg #[.int .i64 kind, .string ek, .int .i64 ea, .int .i64 ev, .int .i64 ma, .int .i64 n, .int .i64 lo, .int .i64 hi, .string rk, .int .i64 rn, .int .i64 rv]] w fun e w' => e = .returned (.string (((((d0 ++ d1) ++ d2) ++ d3) ++ d4) ++ d5)) ∧ Below w.heap.size w w' := by
  subst h
  have z0 : d0.size ≤ 10 := by rw [← hd0]; exact dig10 (by decide)
  have HC0 := Lib.hid (fun W => r4num 5 W d0 (by decide) (by decide) hd0)
  have z1 : d1.size ≤ 26 := by
    have := dig10 (n := rk.size) (by omega)
    rw [← hd1, ByteArray.size_append]; omega
  have HC1 := Lib.hid (fun W => r4text rk W d1 p1 hd1)
  have z2 : d2.size ≤ 10 := by rw [← hd2]; exact dig10 (by omega)
  have HC2 := Lib.hid (fun W => r4num lo W d2 p2 (Int.le_trans q2 (by decide)) hd2)
  have z3 : d3.size ≤ 10 := by rw [← hd3]; exact dig10 (by omega)
  have HC3 := Lib.hid (fun W => r4num hi W d3 p3 (Int.le_trans q3 (by decide)) hd3)
  have z4 : d4.size ≤ 10 := by rw [← hd4]; exact dig10 (by omega)
  have HC4 := Lib.hid (fun W => r4num rn W d4 p4 (Int.le_trans q4 (by decide)) hd4)
  have z5 : d5.size ≤ 10 := by rw [← hd5]; exact dig10 (zz_lt p5 q5)
  have HC5 := Lib.hid (fun W => r4whole rv W d5 p5 q5 hd5)
  have n1 : ¬ (9223372036854775807 < d0.size + d1.size) := by omega
  have m1 : ¬ (d0.size + d1.size > 9223372036854775807) := by omega
  have n2 : ¬ (9223372036854775807 < d0.size + d1.size + d2.size) := by omega
  have m2 : ¬ (d0.size + d1.size + d2.size > 9223372036854775807) := by omega
  have n3 : ¬ (9223372036854775807 < d0.size + d1.size + d2.size + d3.size) := by omega
  have m3 : ¬ (d0.size + d1.size + d2.size + d3.size > 9223372036854775807) := by omega
  have n4 : ¬ (9223372036854775807 < d0.size + d1.size + d2.size + d3.size + d4.size) := by omega
  have m4 : ¬ (d0.size + d1.size + d2.size + d3.size + d4.size > 9223372036854775807) := by omega
  have n5 : ¬ (9223372036854775807 < d0.size + d1.size + d2.size + d3.size + d4.size + d5.size) := by omega
  have m5 : ¬ (d0.size + d1.size + d2.size + d3.size + d4.size + d5.size > 9223372036854775807) := by omega
  clear z1
  clear z2
  clear z3
  clear z4
  clear z5
  clear hd0 hd1 p1 hd2 p2 q2 hd3 p3 q3 hd4 p4 q4 hd5 p5 q5
  go_enter Try.func52, Try.ntmps52
  go_wp2_with fail
  refine (HC0.out _).mono ?_
  rintro e w1 ⟨rfl, hb⟩
  have K1 : w1.heap[w.heap.size]? = some (.cells #[.int .i64 5, .string ek, .int .i64 ea, .int .i64 ev, .int .i64 ma, .int .i64 n, .int .i64 lo, .int .i64 hi, .string rk, .int .i64 rn, .int .i64 rv] 57 (0, 0)) := (hb.block w.heap.size (by simp)).trans (heap_alloc_new w _)
  have HB1 : Hid (Below w.heap.size w w1) := Lib.hid ((bel_alloc (Below.refl _ _) _).trans (hb.mono (bel_alloc (Below.refl _ _) _).size))
  obtain ⟨c0, c1, c2, c3, c4, c5, c6, c7, c8, c9, c10⟩ := eleven K1
  have hgl : w.heap.size < w1.heap.size := hlt K1
  clear hb K1
  go_wp2_with fail
  obtain ⟨g, hg⟩ : ∃ g, g = w.heap.size := ⟨_, rfl⟩
  rw [← hg] at c0 c1 c2 c3 c4 c5 c6 c7 c8 c9 c10 hgl
  rw [← hg]
  clear hg
  obtain ⟨W, hW⟩ : ∃ W, W = w1 := ⟨_, rfl⟩
  subst hW
  have hS0 : Below W.heap.size W W ∧ W.cell? ⟨g, 0, none⟩ = some (.int .i64 5) ∧ W.cell? ⟨g, 1, none⟩ = some (.string ek) ∧ W.cell? ⟨g, 2, none⟩ = some (.int .i64 ea) ∧ W.cell? ⟨g, 3, none⟩ = some (.int .i64 ev) ∧ W.cell? ⟨g, 4, none⟩ = some (.int .i64 ma) ∧ W.cell? ⟨g, 5, none⟩ = some (.int .i64 n) ∧ W.cell? ⟨g, 6, none⟩ = some (.int .i64 lo) ∧ W.cell? ⟨g, 7, none⟩ = some (.int .i64 hi) ∧ W.cell? ⟨g, 8, none⟩ = some (.string rk) ∧ W.cell? ⟨g, 9, none⟩ = some (.int .i64 rn) ∧ W.cell? ⟨g, 10, none⟩ = some (.int .i64 rv) := ⟨Below.refl _ _, c0, c1, c2, c3, c4, c5, c6, c7, c8, c9, c10⟩
  clear c0 c1 c2 c3 c4 c5 c6 c7 c8 c9 c10
  go_region_held3 (fun w' => Below W.heap.size W w' ∧ w'.cell? ⟨g, 0, none⟩ = some (.int .i64 5) ∧ w'.cell? ⟨g, 1, none⟩ = some (.string ek) ∧ w'.cell? ⟨g, 2, none⟩ = some (.int .i64 ea) ∧ w'.cell? ⟨g, 3, none⟩ = some (.int .i64 ev) ∧ w'.cell? ⟨g, 4, none⟩ = some (.int .i64 ma) ∧ w'.cell? ⟨g, 5, none⟩ = some (.int .i64 n) ∧ w'.cell? ⟨g, 6, none⟩ = some (.int .i64 lo) ∧ w'.cell? ⟨g, 7, none⟩ = some (.int .i64 hi) ∧ w'.cell? ⟨g, 8, none⟩ = some (.string rk) ∧ w'.cell? ⟨g, 9, none⟩ = some (.int .i64 rn) ∧ w'.cell? ⟨g, 10, none⟩ = some (.int .i64 rv)) (first | assumption | exact keepD11 _ _ _ _ _ _ _ _ _ _ _ (by assumption) | exact keepB11 _ _ _ _ _ _ _ _ _ _ _ (by assumption) (by assumption) (by assumption)) (first | (go_at_call 72; refine (HC1.out _).mono ?_; rintro e w2 ⟨rfl, hb2⟩) | (go_at_call 71; refine (HC2.out _).mono ?_; rintro e w2 ⟨rfl, hb2⟩) | (go_at_call 71; refine (HC3.out _).mono ?_; rintro e w2 ⟨rfl, hb2⟩) | (go_at_call 71; refine (HC4.out _).mono ?_; rintro e w2 ⟨rfl, hb2⟩) | (go_at_call 73; refine (HC5.out _).mono ?_; rintro e w2 ⟨rfl, hb2⟩))
  go_wp2_with fail
  go_ret
  exact ⟨rfl, HB1.out.trans (Below.mono (by first | assumption | exact And.left (by assumption)) HB1.out.size)⟩
end Go.Proofs.Ytgpifbdjcoiilaa
