/-
  WALKS: item.Put.
-/
import Derived.Test.YtgpifbdjcoiilaaItemW8
import Derived.Test.YtgpifbdjcoiilaaItemW7
namespace Go.Proofs.Ytgpifbdjcoiilaa
open Go.RowKit

theorem Wrote.below {w0 w w' : World} {g : Nat} {s : ByteArray} (hw : Wrote g s w w') (h : Below w0.heap.size w0 w) (hg : w0.heap.size ≤ g) : Below w0.heap.size w0 w' :=
  ⟨hw.2.2.1.trans h.os, hw.2.2.2.1.trans h.tape, hw.2.2.2.2.1.trans h.output, Nat.le_trans h.size hw.2.2.2.2.2, fun k hk => (hw.2.1 k (Nat.lt_of_lt_of_le hk h.size) (by omega)).trans (h.block k hk)⟩
theorem Wrote.keep {w w' : World} {g k : Nat} {s : ByteArray} {o : Obj} (hw : Wrote g s w w') (hne : k ≠ g) (h : w.heap[k]? = some o) : w'.heap[k]? = some o := (hw.2.1 k (hlt h) hne).trans h
theorem eleven {W : World} {g : Nat} {c0 c1 c2 c3 c4 c5 c6 c7 c8 c9 c10 : Value} {T : TypeId} {f : Nat × Nat} (h : W.heap[g]? = some (.cells #[c0, c1, c2, c3, c4, c5, c6, c7, c8, c9, c10] T f)) :
    W.cell? ⟨g, 0, none⟩ = some c0 ∧ W.cell? ⟨g, 1, none⟩ = some c1 ∧ W.cell? ⟨g, 2, none⟩ = some c2 ∧ W.cell? ⟨g, 3, none⟩ = some c3 ∧ W.cell? ⟨g, 4, none⟩ = some c4 ∧ W.cell? ⟨g, 5, none⟩ = some c5 ∧ W.cell? ⟨g, 6, none⟩ = some c6 ∧ W.cell? ⟨g, 7, none⟩ = some c7 ∧ W.cell? ⟨g, 8, none⟩ = some c8 ∧ W.cell? ⟨g, 9, none⟩ = some c9 ∧ W.cell? ⟨g, 10, none⟩ = some c10 :=
  ⟨Lib.cell_of_heap h 0, Lib.cell_of_heap h 1, Lib.cell_of_heap h 2, Lib.cell_of_heap h 3, Lib.cell_of_heap h 4, Lib.cell_of_heap h 5, Lib.cell_of_heap h 6, Lib.cell_of_heap h 7, Lib.cell_of_heap h 8, Lib.cell_of_heap h 9, Lib.cell_of_heap h 10⟩

set_option maxHeartbeats 4000000 in
set_option maxRecDepth 100000 in
theorem put_item3 (kind : Int) (ek : ByteArray) (ea ev ma n lo hi : Int) (rk : ByteArray) (rn rv : Int) (w : World) (h : kind = 3) (hR : rightI ⟨3, ek, ea, ev, ma, n, lo, hi, rk, rn, rv⟩ = true)
    (S1 : ByteArray) (hS1 : (⟨#[]⟩ : ByteArray) ++ digS (3 : Int).toNat = S1) (_z1 : S1.size ≤ 100000) :
    Calls Try.prog 44 #[.agg #[.int .i64 kind, .string ek, .int .i64 ea, .int .i64 ev, .int .i64 ma, .int .i64 n, .int .i64 lo, .int .i64 hi, .string rk, .int .i64 rn, .int .i64 rv]] w fun e w' => e = .returned (.tuple #[.string S1, .int .i64 0]) ∧ Below w.heap.size w w' := by
  have HS1 := Lib.hid hS1
  clear hS1
  have HC0 := Lib.hid (fun w (g : Nat) (hg : w.heap[g]? = some (.cells #[.string ⟨#[]⟩] 75 (0, 0))) => number_any g ⟨#[]⟩ _ 3 w hg (by decide) (by decide) (by decide) rfl)
  clear _z1 
  subst h
  have HR := Lib.hid (fun W => right_any ⟨3, ek, ea, ev, ma, n, lo, hi, rk, rn, rv⟩ W true hR)
  clear hR
  go_enter Try.func44, Try.ntmps44
  go_wp2_with fail
  refine (HR.out _).mono ?_
  rintro e w1 ⟨rfl, hb⟩
  have K1 : w1.heap[w.heap.size]? = some (.cells #[.int .i64 3, .string ek, .int .i64 ea, .int .i64 ev, .int .i64 ma, .int .i64 n, .int .i64 lo, .int .i64 hi, .string rk, .int .i64 rn, .int .i64 rv] 57 (0, 0)) := (hb.block w.heap.size (by simp)).trans (heap_alloc_new w _)
  have B1 : Below w.heap.size w w1 := (bel_alloc (Below.refl _ _) _).trans (hb.mono (bel_alloc (Below.refl _ _) _).size)
  have hgl : w.heap.size < w1.heap.size := by have := hb.size; simp at this; omega
  clear hb
  obtain ⟨c0, c1, c2, c3, c4, c5, c6, c7, c8, c9, c10⟩ := eleven K1
  have HK1 := Lib.hid K1
  have HB1 := Lib.hid B1
  clear K1 B1
  go_wp2_with fail
  clear c0 c1 c2 c3 c4 c5 c6 c7 c8 c9 c10
  obtain ⟨w2, hw2⟩ : ∃ w2, w2 = w1.alloc (.cells #[.string ⟨#[]⟩] 75) := ⟨_, rfl⟩
  have HW2 : Hid (w2.heap[w1.heap.size]? = some (.cells #[.string ⟨#[]⟩] 75 (0, 0))) := Lib.hid (by rw [hw2]; exact heap_alloc_new _ _)
  have HK2 : Hid (w2.heap[w.heap.size]? = some (.cells #[.int .i64 3, .string ek, .int .i64 ea, .int .i64 ev, .int .i64 ma, .int .i64 n, .int .i64 lo, .int .i64 hi, .string rk, .int .i64 rn, .int .i64 rv] 57 (0, 0))) := Lib.hid (by rw [hw2, Below.heap_alloc _ _ _ hgl]; exact HK1.out)
  have HB2 : Hid (Below w.heap.size w w2) := Lib.hid (by rw [hw2]; exact bel_alloc HB1.out _)
  rw [← hw2]
  clear hw2
  obtain ⟨g2, hg2⟩ : ∃ g2, g2 = w1.heap.size := ⟨_, rfl⟩
  rw [← hg2] at HW2 ⊢
  have hne : w.heap.size ≠ g2 := by omega
  have hle : w.heap.size ≤ g2 := by omega
  clear hgl hg2
  refine (HC0.out _ g2 HW2.out).mono ?_
  rintro e w3 ⟨rfl, hw⟩
  rw [HS1.out] at hw
  have HW3 := Lib.hid hw.1
  have HK3 := Lib.hid (hw.keep hne HK2.out)
  have HB3 := Lib.hid (hw.below HB2.out hle)
  obtain ⟨c0, c1, c2, c3, c4, c5, c6, c7, c8, c9, c10⟩ := eleven HK3.out
  have cw : w3.cell? ⟨g2, 0, none⟩ = some (.string S1) := Lib.cell_of_heap HW3.out 0
  clear hw HW2 HK2 HB2
  go_wp2_with fail
  clear c0 c1 c2 c3 c4 c5 c6 c7 c8 c9 c10 cw
  go_ret2
  exact ⟨rfl, HB3.out⟩
set_option maxHeartbeats 4000000 in
set_option maxRecDepth 100000 in
theorem put_item2 (kind : Int) (ek : ByteArray) (ea ev ma n lo hi : Int) (rk : ByteArray) (rn rv : Int) (w : World) (h : kind = 2) (hR : rightI ⟨2, ek, ea, ev, ma, n, lo, hi, rk, rn, rv⟩ = true)
    (S1 : ByteArray) (hS1 : (⟨#[]⟩ : ByteArray) ++ digS (2 : Int).toNat = S1) (z1 : S1.size ≤ 100000) (S2 : ByteArray) (hS2 : S1 ++ digS (ma : Int).toNat = S2) (_z2 : S2.size ≤ 100000) (p1_0 : 0 ≤ ma) (p1_1 : ma ≤ 1099511627776) :
    Calls Try.prog 44 #[.agg #[.int .i64 kind, .string ek, .int .i64 ea, .int .i64 ev, .int .i64 ma, .int .i64 n, .int .i64 lo, .int .i64 hi, .string rk, .int .i64 rn, .int .i64 rv]] w fun e w' => e = .returned (.tuple #[.string S2, .int .i64 0]) ∧ Below w.heap.size w w' := by
  have HS1 := Lib.hid hS1
  clear hS1
  have HS2 := Lib.hid hS2
  clear hS2
  have HC0 := Lib.hid (fun w (g : Nat) (hg : w.heap[g]? = some (.cells #[.string ⟨#[]⟩] 75 (0, 0))) => number_any g ⟨#[]⟩ _ 2 w hg (by decide) (by decide) (by decide) rfl)
  have HC1 := Lib.hid (fun w (g : Nat) (hg : w.heap[g]? = some (.cells #[.string S1] 75 (0, 0))) => number_any g S1 _ ma w hg z1 p1_0 (Int.le_trans p1_1 (by decide)) rfl)
  clear z1 _z2 p1_0 p1_1
  subst h
  have HR := Lib.hid (fun W => right_any ⟨2, ek, ea, ev, ma, n, lo, hi, rk, rn, rv⟩ W true hR)
  clear hR
  go_enter Try.func44, Try.ntmps44
  go_wp2_with fail
  refine (HR.out _).mono ?_
  rintro e w1 ⟨rfl, hb⟩
  have K1 : w1.heap[w.heap.size]? = some (.cells #[.int .i64 2, .string ek, .int .i64 ea, .int .i64 ev, .int .i64 ma, .int .i64 n, .int .i64 lo, .int .i64 hi, .string rk, .int .i64 rn, .int .i64 rv] 57 (0, 0)) := (hb.block w.heap.size (by simp)).trans (heap_alloc_new w _)
  have B1 : Below w.heap.size w w1 := (bel_alloc (Below.refl _ _) _).trans (hb.mono (bel_alloc (Below.refl _ _) _).size)
  have hgl : w.heap.size < w1.heap.size := by have := hb.size; simp at this; omega
  clear hb
  obtain ⟨c0, c1, c2, c3, c4, c5, c6, c7, c8, c9, c10⟩ := eleven K1
  have HK1 := Lib.hid K1
  have HB1 := Lib.hid B1
  clear K1 B1
  go_wp2_with fail
  clear c0 c1 c2 c3 c4 c5 c6 c7 c8 c9 c10
  obtain ⟨w2, hw2⟩ : ∃ w2, w2 = w1.alloc (.cells #[.string ⟨#[]⟩] 75) := ⟨_, rfl⟩
  have HW2 : Hid (w2.heap[w1.heap.size]? = some (.cells #[.string ⟨#[]⟩] 75 (0, 0))) := Lib.hid (by rw [hw2]; exact heap_alloc_new _ _)
  have HK2 : Hid (w2.heap[w.heap.size]? = some (.cells #[.int .i64 2, .string ek, .int .i64 ea, .int .i64 ev, .int .i64 ma, .int .i64 n, .int .i64 lo, .int .i64 hi, .string rk, .int .i64 rn, .int .i64 rv] 57 (0, 0))) := Lib.hid (by rw [hw2, Below.heap_alloc _ _ _ hgl]; exact HK1.out)
  have HB2 : Hid (Below w.heap.size w w2) := Lib.hid (by rw [hw2]; exact bel_alloc HB1.out _)
  rw [← hw2]
  clear hw2
  obtain ⟨g2, hg2⟩ : ∃ g2, g2 = w1.heap.size := ⟨_, rfl⟩
  rw [← hg2] at HW2 ⊢
  have hne : w.heap.size ≠ g2 := by omega
  have hle : w.heap.size ≤ g2 := by omega
  clear hgl hg2
  refine (HC0.out _ g2 HW2.out).mono ?_
  rintro e w3 ⟨rfl, hw⟩
  rw [HS1.out] at hw
  have HW3 := Lib.hid hw.1
  have HK3 := Lib.hid (hw.keep hne HK2.out)
  have HB3 := Lib.hid (hw.below HB2.out hle)
  obtain ⟨c0, c1, c2, c3, c4, c5, c6, c7, c8, c9, c10⟩ := eleven HK3.out
  have cw : w3.cell? ⟨g2, 0, none⟩ = some (.string S1) := Lib.cell_of_heap HW3.out 0
  clear hw HW2 HK2 HB2
  go_wp2_with fail
  clear c0 c1 c2 c3 c4 c5 c6 c7 c8 c9 c10 cw
  refine (HC1.out _ g2 HW3.out).mono ?_
  rintro e w4 ⟨rfl, hw⟩
  rw [HS2.out] at hw
  have HW4 := Lib.hid hw.1
  have HK4 := Lib.hid (hw.keep hne HK3.out)
  have HB4 := Lib.hid (hw.below HB3.out hle)
  obtain ⟨c0, c1, c2, c3, c4, c5, c6, c7, c8, c9, c10⟩ := eleven HK4.out
  have cw : w4.cell? ⟨g2, 0, none⟩ = some (.string S2) := Lib.cell_of_heap HW4.out 0
  clear hw HW3 HK3 HB3
  go_wp2_with fail
  clear c0 c1 c2 c3 c4 c5 c6 c7 c8 c9 c10 cw
  go_ret2
  exact ⟨rfl, HB4.out⟩
set_option maxHeartbeats 4000000 in
set_option maxRecDepth 100000 in
theorem put_item4 (kind : Int) (ek : ByteArray) (ea ev ma n lo hi : Int) (rk : ByteArray) (rn rv : Int) (w : World) (h : kind = 4) (hR : rightI ⟨4, ek, ea, ev, ma, n, lo, hi, rk, rn, rv⟩ = true)
    (S1 : ByteArray) (hS1 : (⟨#[]⟩ : ByteArray) ++ digS (4 : Int).toNat = S1) (z1 : S1.size ≤ 100000) (S2 : ByteArray) (hS2 : S1 ++ digS (n : Int).toNat = S2) (_z2 : S2.size ≤ 100000) (p1_0 : 0 ≤ n) (p1_1 : n ≤ 1099511627776) :
    Calls Try.prog 44 #[.agg #[.int .i64 kind, .string ek, .int .i64 ea, .int .i64 ev, .int .i64 ma, .int .i64 n, .int .i64 lo, .int .i64 hi, .string rk, .int .i64 rn, .int .i64 rv]] w fun e w' => e = .returned (.tuple #[.string S2, .int .i64 0]) ∧ Below w.heap.size w w' := by
  have HS1 := Lib.hid hS1
  clear hS1
  have HS2 := Lib.hid hS2
  clear hS2
  have HC0 := Lib.hid (fun w (g : Nat) (hg : w.heap[g]? = some (.cells #[.string ⟨#[]⟩] 75 (0, 0))) => number_any g ⟨#[]⟩ _ 4 w hg (by decide) (by decide) (by decide) rfl)
  have HC1 := Lib.hid (fun w (g : Nat) (hg : w.heap[g]? = some (.cells #[.string S1] 75 (0, 0))) => number_any g S1 _ n w hg z1 p1_0 (Int.le_trans p1_1 (by decide)) rfl)
  clear z1 _z2 p1_0 p1_1
  subst h
  have HR := Lib.hid (fun W => right_any ⟨4, ek, ea, ev, ma, n, lo, hi, rk, rn, rv⟩ W true hR)
  clear hR
  go_enter Try.func44, Try.ntmps44
  go_wp2_with fail
  refine (HR.out _).mono ?_
  rintro e w1 ⟨rfl, hb⟩
  have K1 : w1.heap[w.heap.size]? = some (.cells #[.int .i64 4, .string ek, .int .i64 ea, .int .i64 ev, .int .i64 ma, .int .i64 n, .int .i64 lo, .int .i64 hi, .string rk, .int .i64 rn, .int .i64 rv] 57 (0, 0)) := (hb.block w.heap.size (by simp)).trans (heap_alloc_new w _)
  have B1 : Below w.heap.size w w1 := (bel_alloc (Below.refl _ _) _).trans (hb.mono (bel_alloc (Below.refl _ _) _).size)
  have hgl : w.heap.size < w1.heap.size := by have := hb.size; simp at this; omega
  clear hb
  obtain ⟨c0, c1, c2, c3, c4, c5, c6, c7, c8, c9, c10⟩ := eleven K1
  have HK1 := Lib.hid K1
  have HB1 := Lib.hid B1
  clear K1 B1
  go_wp2_with fail
  clear c0 c1 c2 c3 c4 c5 c6 c7 c8 c9 c10
  obtain ⟨w2, hw2⟩ : ∃ w2, w2 = w1.alloc (.cells #[.string ⟨#[]⟩] 75) := ⟨_, rfl⟩
  have HW2 : Hid (w2.heap[w1.heap.size]? = some (.cells #[.string ⟨#[]⟩] 75 (0, 0))) := Lib.hid (by rw [hw2]; exact heap_alloc_new _ _)
  have HK2 : Hid (w2.heap[w.heap.size]? = some (.cells #[.int .i64 4, .string ek, .int .i64 ea, .int .i64 ev, .int .i64 ma, .int .i64 n, .int .i64 lo, .int .i64 hi, .string rk, .int .i64 rn, .int .i64 rv] 57 (0, 0))) := Lib.hid (by rw [hw2, Below.heap_alloc _ _ _ hgl]; exact HK1.out)
  have HB2 : Hid (Below w.heap.size w w2) := Lib.hid (by rw [hw2]; exact bel_alloc HB1.out _)
  rw [← hw2]
  clear hw2
  obtain ⟨g2, hg2⟩ : ∃ g2, g2 = w1.heap.size := ⟨_, rfl⟩
  rw [← hg2] at HW2 ⊢
  have hne : w.heap.size ≠ g2 := by omega
  have hle : w.heap.size ≤ g2 := by omega
  clear hgl hg2
  refine (HC0.out _ g2 HW2.out).mono ?_
  rintro e w3 ⟨rfl, hw⟩
  rw [HS1.out] at hw
  have HW3 := Lib.hid hw.1
  have HK3 := Lib.hid (hw.keep hne HK2.out)
  have HB3 := Lib.hid (hw.below HB2.out hle)
  obtain ⟨c0, c1, c2, c3, c4, c5, c6, c7, c8, c9, c10⟩ := eleven HK3.out
  have cw : w3.cell? ⟨g2, 0, none⟩ = some (.string S1) := Lib.cell_of_heap HW3.out 0
  clear hw HW2 HK2 HB2
  go_wp2_with fail
  clear c0 c1 c2 c3 c4 c5 c6 c7 c8 c9 c10 cw
  refine (HC1.out _ g2 HW3.out).mono ?_
  rintro e w4 ⟨rfl, hw⟩
  rw [HS2.out] at hw
  have HW4 := Lib.hid hw.1
  have HK4 := Lib.hid (hw.keep hne HK3.out)
  have HB4 := Lib.hid (hw.below HB3.out hle)
  obtain ⟨c0, c1, c2, c3, c4, c5, c6, c7, c8, c9, c10⟩ := eleven HK4.out
  have cw : w4.cell? ⟨g2, 0, none⟩ = some (.string S2) := Lib.cell_of_heap HW4.out 0
  clear hw HW3 HK3 HB3
  go_wp2_with fail
  clear c0 c1 c2 c3 c4 c5 c6 c7 c8 c9 c10 cw
  go_ret2
  exact ⟨rfl, HB4.out⟩
set_option maxHeartbeats 4000000 in
set_option maxRecDepth 100000 in
theorem put_item1 (kind : Int) (ek : ByteArray) (ea ev ma n lo hi : Int) (rk : ByteArray) (rn rv : Int) (w : World) (h : kind = 1) (hR : rightI ⟨1, ek, ea, ev, ma, n, lo, hi, rk, rn, rv⟩ = true)
    (S1 : ByteArray) (hS1 : (⟨#[]⟩ : ByteArray) ++ digS (1 : Int).toNat = S1) (z1 : S1.size ≤ 100000) (S2 : ByteArray) (hS2 : S1 ++ (digS ek.size ++ ek) = S2) (z2 : S2.size ≤ 100000) (p1_0 : ek.size ≤ 16) (S3 : ByteArray) (hS3 : S2 ++ digS (ea : Int).toNat = S3) (z3 : S3.size ≤ 100000) (p2_0 : 0 ≤ ea) (p2_1 : ea ≤ 1099511627776) (S4 : ByteArray) (hS4 : S3 ++ digS (zz ev) = S4) (_z4 : S4.size ≤ 100000) (p3_0 : -9223372036854775808 ≤ ev) (p3_1 : ev ≤ 9223372036854775807) :
    Calls Try.prog 44 #[.agg #[.int .i64 kind, .string ek, .int .i64 ea, .int .i64 ev, .int .i64 ma, .int .i64 n, .int .i64 lo, .int .i64 hi, .string rk, .int .i64 rn, .int .i64 rv]] w fun e w' => e = .returned (.tuple #[.string S4, .int .i64 0]) ∧ Below w.heap.size w w' := by
  have HS1 := Lib.hid hS1
  clear hS1
  have HS2 := Lib.hid hS2
  clear hS2
  have HS3 := Lib.hid hS3
  clear hS3
  have HS4 := Lib.hid hS4
  clear hS4
  have HC0 := Lib.hid (fun w (g : Nat) (hg : w.heap[g]? = some (.cells #[.string ⟨#[]⟩] 75 (0, 0))) => number_any g ⟨#[]⟩ _ 1 w hg (by decide) (by decide) (by decide) rfl)
  have HC1 := Lib.hid (fun w (g : Nat) (hg : w.heap[g]? = some (.cells #[.string S1] 75 (0, 0))) => text_w g S1 ek w hg z1 (Nat.le_trans p1_0 (by decide)))
  have HC2 := Lib.hid (fun w (g : Nat) (hg : w.heap[g]? = some (.cells #[.string S2] 75 (0, 0))) => number_any g S2 _ ea w hg z2 p2_0 (Int.le_trans p2_1 (by decide)) rfl)
  have HC3 := Lib.hid (fun w (g : Nat) (hg : w.heap[g]? = some (.cells #[.string S3] 75 (0, 0))) => signed_w g S3 _ ev w hg z3 p3_0 p3_1 rfl)
  clear z1 z2 z3 _z4 p1_0 p2_0 p2_1 p3_0 p3_1
  subst h
  have HR := Lib.hid (fun W => right_any ⟨1, ek, ea, ev, ma, n, lo, hi, rk, rn, rv⟩ W true hR)
  clear hR
  go_enter Try.func44, Try.ntmps44
  go_wp2_with fail
  refine (HR.out _).mono ?_
  rintro e w1 ⟨rfl, hb⟩
  have K1 : w1.heap[w.heap.size]? = some (.cells #[.int .i64 1, .string ek, .int .i64 ea, .int .i64 ev, .int .i64 ma, .int .i64 n, .int .i64 lo, .int .i64 hi, .string rk, .int .i64 rn, .int .i64 rv] 57 (0, 0)) := (hb.block w.heap.size (by simp)).trans (heap_alloc_new w _)
  have B1 : Below w.heap.size w w1 := (bel_alloc (Below.refl _ _) _).trans (hb.mono (bel_alloc (Below.refl _ _) _).size)
  have hgl : w.heap.size < w1.heap.size := by have := hb.size; simp at this; omega
  clear hb
  obtain ⟨c0, c1, c2, c3, c4, c5, c6, c7, c8, c9, c10⟩ := eleven K1
  have HK1 := Lib.hid K1
  have HB1 := Lib.hid B1
  clear K1 B1
  go_wp2_with fail
  clear c0 c1 c2 c3 c4 c5 c6 c7 c8 c9 c10
  obtain ⟨w2, hw2⟩ : ∃ w2, w2 = w1.alloc (.cells #[.string ⟨#[]⟩] 75) := ⟨_, rfl⟩
  have HW2 : Hid (w2.heap[w1.heap.size]? = some (.cells #[.string ⟨#[]⟩] 75 (0, 0))) := Lib.hid (by rw [hw2]; exact heap_alloc_new _ _)
  have HK2 : Hid (w2.heap[w.heap.size]? = some (.cells #[.int .i64 1, .string ek, .int .i64 ea, .int .i64 ev, .int .i64 ma, .int .i64 n, .int .i64 lo, .int .i64 hi, .string rk, .int .i64 rn, .int .i64 rv] 57 (0, 0))) := Lib.hid (by rw [hw2, Below.heap_alloc _ _ _ hgl]; exact HK1.out)
  have HB2 : Hid (Below w.heap.size w w2) := Lib.hid (by rw [hw2]; exact bel_alloc HB1.out _)
  rw [← hw2]
  clear hw2
  obtain ⟨g2, hg2⟩ : ∃ g2, g2 = w1.heap.size := ⟨_, rfl⟩
  rw [← hg2] at HW2 ⊢
  have hne : w.heap.size ≠ g2 := by omega
  have hle : w.heap.size ≤ g2 := by omega
  clear hgl hg2
  refine (HC0.out _ g2 HW2.out).mono ?_
  rintro e w3 ⟨rfl, hw⟩
  rw [HS1.out] at hw
  have HW3 := Lib.hid hw.1
  have HK3 := Lib.hid (hw.keep hne HK2.out)
  have HB3 := Lib.hid (hw.below HB2.out hle)
  obtain ⟨c0, c1, c2, c3, c4, c5, c6, c7, c8, c9, c10⟩ := eleven HK3.out
  have cw : w3.cell? ⟨g2, 0, none⟩ = some (.string S1) := Lib.cell_of_heap HW3.out 0
  clear hw HW2 HK2 HB2
  go_wp2_with fail
  clear c0 c1 c2 c3 c4 c5 c6 c7 c8 c9 c10 cw
  refine (HC1.out _ g2 HW3.out).mono ?_
  rintro e w4 ⟨rfl, hw⟩
  rw [HS2.out] at hw
  have HW4 := Lib.hid hw.1
  have HK4 := Lib.hid (hw.keep hne HK3.out)
  have HB4 := Lib.hid (hw.below HB3.out hle)
  obtain ⟨c0, c1, c2, c3, c4, c5, c6, c7, c8, c9, c10⟩ := eleven HK4.out
  have cw : w4.cell? ⟨g2, 0, none⟩ = some (.string S2) := Lib.cell_of_heap HW4.out 0
  clear hw HW3 HK3 HB3
  go_wp2_with fail
  clear c0 c1 c2 c3 c4 c5 c6 c7 c8 c9 c10 cw
  refine (HC2.out _ g2 HW4.out).mono ?_
  rintro e w5 ⟨rfl, hw⟩
  rw [HS3.out] at hw
  have HW5 := Lib.hid hw.1
  have HK5 := Lib.hid (hw.keep hne HK4.out)
  have HB5 := Lib.hid (hw.below HB4.out hle)
  obtain ⟨c0, c1, c2, c3, c4, c5, c6, c7, c8, c9, c10⟩ := eleven HK5.out
  have cw : w5.cell? ⟨g2, 0, none⟩ = some (.string S3) := Lib.cell_of_heap HW5.out 0
  clear hw HW4 HK4 HB4
  go_wp2_with fail
  clear c0 c1 c2 c3 c4 c5 c6 c7 c8 c9 c10 cw
  refine (HC3.out _ g2 HW5.out).mono ?_
  rintro e w6 ⟨rfl, hw⟩
  rw [HS4.out] at hw
  have HW6 := Lib.hid hw.1
  have HK6 := Lib.hid (hw.keep hne HK5.out)
  have HB6 := Lib.hid (hw.below HB5.out hle)
  obtain ⟨c0, c1, c2, c3, c4, c5, c6, c7, c8, c9, c10⟩ := eleven HK6.out
  have cw : w6.cell? ⟨g2, 0, none⟩ = some (.string S4) := Lib.cell_of_heap HW6.out 0
  clear hw HW5 HK5 HB5
  go_wp2_with fail
  clear c0 c1 c2 c3 c4 c5 c6 c7 c8 c9 c10 cw
  go_ret2
  exact ⟨rfl, HB6.out⟩
end Go.Proofs.Ytgpifbdjcoiilaa
