/-
  WALKS: item.Put of a result.
-/
import Derived.Test.YtgpifbdjcoiilaaItemW9
namespace Go.Proofs.Ytgpifbdjcoiilaa
open Go.RowKit

theorem five {W : World} {g : Nat} {c0 c1 c2 c3 c4 : Value} {T : TypeId} {f : Nat × Nat} (h : W.heap[g]? = some (.cells #[c0, c1, c2, c3, c4] T f)) :
    W.cell? ⟨g, 0, none⟩ = some c0 ∧ W.cell? ⟨g, 1, none⟩ = some c1 ∧ W.cell? ⟨g, 2, none⟩ = some c2 ∧ W.cell? ⟨g, 3, none⟩ = some c3 ∧ W.cell? ⟨g, 4, none⟩ = some c4 :=
  ⟨Lib.cell_of_heap h 0, Lib.cell_of_heap h 1, Lib.cell_of_heap h 2, Lib.cell_of_heap h 3, Lib.cell_of_heap h 4⟩
theorem three {W : World} {g : Nat} {c0 c1 c2 : Value} {T : TypeId} {f : Nat × Nat} (h : W.heap[g]? = some (.cells #[c0, c1, c2] T f)) :
    W.cell? ⟨g, 0, none⟩ = some c0 ∧ W.cell? ⟨g, 1, none⟩ = some c1 ∧ W.cell? ⟨g, 2, none⟩ = some c2 :=
  ⟨Lib.cell_of_heap h 0, Lib.cell_of_heap h 1, Lib.cell_of_heap h 2⟩

set_option maxHeartbeats 4000000 in
set_option maxRecDepth 100000 in
theorem put_item5 (kind : Int) (ek : ByteArray) (ea ev ma n lo hi : Int) (rk : ByteArray) (rn rv : Int) (w : World) (h : kind = 5) (hR : rightI ⟨5, ek, ea, ev, ma, n, lo, hi, rk, rn, rv⟩ = true)
    (S1 : ByteArray) (hS1 : (⟨#[]⟩ : ByteArray) ++ digS (5 : Int).toNat = S1) (z1 : S1.size ≤ 100000) (S2 : ByteArray) (hS2 : S1 ++ (digS rk.size ++ rk) = S2) (z2 : S2.size ≤ 100000) (S3 : ByteArray) (hS3 : S2 ++ digS (lo : Int).toNat = S3) (z3 : S3.size ≤ 100000) (S4 : ByteArray) (hS4 : S3 ++ digS (hi : Int).toNat = S4) (z4 : S4.size ≤ 100000) (S5 : ByteArray) (hS5 : S4 ++ digS (rn : Int).toNat = S5) (z5 : S5.size ≤ 100000) (S6 : ByteArray) (hS6 : S5 ++ digS (zz rv) = S6) (_z6 : S6.size ≤ 100000) (p1 : rk.size ≤ 16) (plo0 : 0 ≤ lo) (plo1 : lo ≤ 1099511627776) (phi0 : 0 ≤ hi) (phi1 : hi ≤ 1099511627776) (prn0 : 0 ≤ rn) (prn1 : rn ≤ 1099511627776) (prv0 : -9223372036854775808 ≤ rv) (prv1 : rv ≤ 9223372036854775807) :
    Calls Try.prog 44 #[.agg #[.int .i64 kind, .string ek, .int .i64 ea, .int .i64 ev, .int .i64 ma, .int .i64 n, .int .i64 lo, .int .i64 hi, .string rk, .int .i64 rn, .int .i64 rv]] w fun e w' => e = .returned (.tuple #[.string S6, .int .i64 0]) ∧ Below w.heap.size w w' := by
  have HS1 := Lib.hid hS1
  clear hS1
  have HS2 := Lib.hid hS2
  clear hS2
  have HS3 := Lib.hid hS3
  clear hS3
  have HS4 := Lib.hid hS4
  clear hS4
  have HS5 := Lib.hid hS5
  clear hS5
  have HS6 := Lib.hid hS6
  clear hS6
  have HC0 := Lib.hid (fun w (g : Nat) (hg : w.heap[g]? = some (.cells #[.string ⟨#[]⟩] 75 (0, 0))) => number_any g ⟨#[]⟩ _ 5 w hg (by decide) (by decide) (by decide) rfl)
  have HC1 := Lib.hid (fun w (g : Nat) (hg : w.heap[g]? = some (.cells #[.string S1] 75 (0, 0))) => text_w g S1 rk w hg z1 (Nat.le_trans p1 (by decide)))
  have HC2 := Lib.hid (fun w (g : Nat) (hg : w.heap[g]? = some (.cells #[.string S2] 75 (0, 0))) => number_any g S2 _ lo w hg z2 plo0 (Int.le_trans plo1 (by decide)) rfl)
  have HC3 := Lib.hid (fun w (g : Nat) (hg : w.heap[g]? = some (.cells #[.string S3] 75 (0, 0))) => number_any g S3 _ hi w hg z3 phi0 (Int.le_trans phi1 (by decide)) rfl)
  have HC4 := Lib.hid (fun w (g : Nat) (hg : w.heap[g]? = some (.cells #[.string S4] 75 (0, 0))) => number_any g S4 _ rn w hg z4 prn0 (Int.le_trans prn1 (by decide)) rfl)
  have HC5 := Lib.hid (fun w (g : Nat) (hg : w.heap[g]? = some (.cells #[.string S5] 75 (0, 0))) => signed_w g S5 _ rv w hg z5 prv0 prv1 rfl)
  clear z1 z2 z3 z4 z5 _z6 p1 plo0 plo1 phi0 phi1 prn0 prn1 prv0 prv1
  subst h
  have HR := Lib.hid (fun W => right_any ⟨5, ek, ea, ev, ma, n, lo, hi, rk, rn, rv⟩ W true hR)
  clear hR
  go_enter Try.func44, Try.ntmps44
  go_wp2_with fail
  refine (HR.out _).mono ?_
  rintro e w1 ⟨rfl, hb⟩
  have K1 : w1.heap[w.heap.size]? = some (.cells #[.int .i64 5, .string ek, .int .i64 ea, .int .i64 ev, .int .i64 ma, .int .i64 n, .int .i64 lo, .int .i64 hi, .string rk, .int .i64 rn, .int .i64 rv] 57 (0, 0)) := (hb.block w.heap.size (by simp)).trans (heap_alloc_new w _)
  have B1 : Below w.heap.size w w1 := (bel_alloc (Below.refl _ _) _).trans (hb.mono (bel_alloc (Below.refl _ _) _).size)
  have hgl : w.heap.size < w1.heap.size := by have := hb.size; simp at this; omega
  clear hb
  obtain ⟨c0, c1, c2, c3, c4, c5, c6, c7, c8, c9, c10⟩ := eleven K1
  have HK1 := Lib.hid K1
  have HB1 := Lib.hid B1
  clear K1 B1
  go_wp2_with fail
  clear c0 c1 c2 c3 c4 c5 c6 c7 c8 c9 c10
  obtain ⟨w2, hw2⟩ : ∃ w2, w2 = w1.alloc (.cells #[.string ⟨#[]⟩] 75) := ⟨_, rfl⟩
  have HW2 : Hid (w2.heap[w1.heap.size]? = some (.cells #[.string ⟨#[]⟩] 75 (0, 0))) := Lib.hid (by rw [hw2]; exact heap_alloc_new _ _)
  have HK2 : Hid (w2.heap[w.heap.size]? = some (.cells #[.int .i64 5, .string ek, .int .i64 ea, .int .i64 ev, .int .i64 ma, .int .i64 n, .int .i64 lo, .int .i64 hi, .string rk, .int .i64 rn, .int .i64 rv] 57 (0, 0))) := Lib.hid (by rw [hw2, Below.heap_alloc _ _ _ hgl]; exact HK1.out)
  have HB2 : Hid (Below w.heap.size w w2) := Lib.hid (by rw [hw2]; exact bel_alloc HB1.out _)
  rw [← hw2]
  clear hw2
  obtain ⟨g2, hg2⟩ : ∃ g2, g2 = w1.heap.size := ⟨_, rfl⟩
  rw [← hg2] at HW2 ⊢
  have hne : w.heap.size ≠ g2 := by omega
  have hle : w.heap.size ≤ g2 := by omega
  clear hgl hg2
  refine (HC0.out _ g2 HW2.out).mono ?_
  rintro e w3 ⟨rfl, hw⟩
  rw [HS1.out] at hw
  have HW3 := Lib.hid hw.1
  have HK3 := Lib.hid (hw.keep hne HK2.out)
  have HB3 := Lib.hid (hw.below HB2.out hle)
  obtain ⟨c0, c1, c2, c3, c4, c5, c6, c7, c8, c9, c10⟩ := eleven HK3.out
  have cw : w3.cell? ⟨g2, 0, none⟩ = some (.string S1) := Lib.cell_of_heap HW3.out 0
  clear hw HW2 HK2 HB2
  go_wp2_with fail
  clear c0 c1 c2 c3 c4 c5 c6 c7 c8 c9 c10 cw
  obtain ⟨u3, hu3⟩ : ∃ u3, u3 = w3.alloc (.cells #[.int .i64 lo, .int .i64 hi, .string rk, .int .i64 rn, .int .i64 rv] 55) := ⟨_, rfl⟩
  obtain ⟨g3, hg3⟩ : ∃ g3, g3 = w3.heap.size := ⟨_, rfl⟩
  have hl2 : g2 < w3.heap.size := hlt HW3.out
  have hl1 : w.heap.size < w3.heap.size := hlt HK3.out
  have HWu : Hid (u3.heap[g2]? = some (.cells #[.string S1] 75 (0, 0))) := Lib.hid (by rw [hu3, Below.heap_alloc _ _ _ hl2]; exact HW3.out)
  have HBu : Hid (Below w.heap.size w u3) := Lib.hid (by rw [hu3]; exact bel_alloc HB3.out _)
  have HQu : Hid (u3.heap[g3]? = some (.cells #[.int .i64 lo, .int .i64 hi, .string rk, .int .i64 rn, .int .i64 rv] 55 (0, 0))) := Lib.hid (by rw [hu3, hg3]; exact heap_alloc_new _ _)
  have hne3 : g3 ≠ g2 := by omega
  have hle3 : w.heap.size ≤ g3 := by omega
  rw [← hu3, ← hg3]
  clear hu3 hg3 hl2 hl1 HW3 HK3 HB3
  refine (HC1.out _ g2 HWu.out).mono ?_
  rintro e w4 ⟨rfl, hw⟩
  rw [HS2.out] at hw
  have HW4 := Lib.hid hw.1
  have HQ4 := Lib.hid (hw.keep hne3 HQu.out)
  have HB4 := Lib.hid (hw.below HBu.out hle)
  obtain ⟨c0, c1, c2, c3, c4⟩ := five HQ4.out
  clear hw HWu HQu HBu
  go_wp2_with fail
  clear c0 c1 c2 c3 c4
  obtain ⟨u4, hu4⟩ : ∃ u4, u4 = w4.alloc (.cells #[.int .i64 lo, .int .i64 hi, .int .i64 rn] 2) := ⟨_, rfl⟩
  obtain ⟨g4, hg4⟩ : ∃ g4, g4 = w4.heap.size := ⟨_, rfl⟩
  have hl2 : g2 < w4.heap.size := hlt HW4.out
  have hl3 : g3 < w4.heap.size := hlt HQ4.out
  have HWv : Hid (u4.heap[g2]? = some (.cells #[.string S2] 75 (0, 0))) := Lib.hid (by rw [hu4, Below.heap_alloc _ _ _ hl2]; exact HW4.out)
  have HQv : Hid (u4.heap[g3]? = some (.cells #[.int .i64 lo, .int .i64 hi, .string rk, .int .i64 rn, .int .i64 rv] 55 (0, 0))) := Lib.hid (by rw [hu4, Below.heap_alloc _ _ _ hl3]; exact HQ4.out)
  have HTv : Hid (u4.heap[g4]? = some (.cells #[.int .i64 lo, .int .i64 hi, .int .i64 rn] 2 (0, 0))) := Lib.hid (by rw [hu4, hg4]; exact heap_alloc_new _ _)
  have HBv : Hid (Below w.heap.size w u4) := Lib.hid (by rw [hu4]; exact bel_alloc HB4.out _)
  have hne4 : g4 ≠ g2 := by omega
  rw [← hu4]
  try rw [← hg4]
  clear hu4 hg4 hl2 hl3 HW4 HQ4 HB4
  refine wp_loop_rounds 4 ?_
  rw [rounds_succ]
  obtain ⟨c0, c1, c2⟩ := three HTv.out
  go_wp2_with fail
  clear c0 c1 c2
  refine (HC2.out _ g2 HWv.out).mono ?_
  rintro e w5 ⟨rfl, hw⟩
  rw [HS3.out] at hw
  have HW5 := Lib.hid hw.1
  have HQ5 := Lib.hid (hw.keep hne3 HQv.out)
  have HT5 := Lib.hid (hw.keep hne4 HTv.out)
  have HB5 := Lib.hid (hw.below HBv.out hle)
  clear hw HWv HQv HTv HBv
  go_wp2_with fail
  rw [rounds_succ]
  obtain ⟨c0, c1, c2⟩ := three HT5.out
  go_wp2_with fail
  clear c0 c1 c2
  refine (HC3.out _ g2 HW5.out).mono ?_
  rintro e w6 ⟨rfl, hw⟩
  rw [HS4.out] at hw
  have HW6 := Lib.hid hw.1
  have HQ6 := Lib.hid (hw.keep hne3 HQ5.out)
  have HT6 := Lib.hid (hw.keep hne4 HT5.out)
  have HB6 := Lib.hid (hw.below HB5.out hle)
  clear hw HW5 HQ5 HT5 HB5
  go_wp2_with fail
  rw [rounds_succ]
  obtain ⟨c0, c1, c2⟩ := three HT6.out
  go_wp2_with fail
  clear c0 c1 c2
  refine (HC4.out _ g2 HW6.out).mono ?_
  rintro e w7 ⟨rfl, hw⟩
  rw [HS5.out] at hw
  have HW7 := Lib.hid hw.1
  have HQ7 := Lib.hid (hw.keep hne3 HQ6.out)
  have HT7 := Lib.hid (hw.keep hne4 HT6.out)
  have HB7 := Lib.hid (hw.below HB6.out hle)
  clear hw HW6 HQ6 HT6 HB6
  go_wp2_with fail
  rw [rounds_succ]
  obtain ⟨c0, c1, c2, c3, c4⟩ := five HQ7.out
  go_wp2_with fail
  clear c0 c1 c2 c3 c4
  refine (HC5.out _ g2 HW7.out).mono ?_
  rintro e w8 ⟨rfl, hw⟩
  rw [HS6.out] at hw
  have hB := hw.below HB7.out hle
  have cw : w8.cell? ⟨g2, 0, none⟩ = some (.string S6) := Lib.cell_of_heap hw.1 0
  have HB8 := Lib.hid hB
  clear hw hB
  go_wp2_with fail
  go_ret2
  exact ⟨rfl, HB8.out⟩
end Go.Proofs.Ytgpifbdjcoiilaa
