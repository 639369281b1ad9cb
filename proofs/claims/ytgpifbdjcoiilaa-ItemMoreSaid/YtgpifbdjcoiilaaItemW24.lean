/-
  WALKS: item.Get and the reference's Get, joined.
-/
import Derived.Test.YtgpifbdjcoiilaaItemW21
import Derived.Test.YtgpifbdjcoiilaaItemW23
import Derived.Test.YtgpifbdjcoiilaaItemL2
namespace Go.Proofs.Ytgpifbdjcoiilaa
open Go.RowKit

set_option maxHeartbeats 1000000 in
set_option maxRecDepth 100000 in
theorem get_6 (s : ByteArray) (w : World) (hs : s.size ≤ 140737488355328) (k a0 : Int) (h0 : numP s 0 0 = (k, a0, 0)) (hk : k < 1 ∨ 5 < k) :
    Calls Try.prog 47 #[.string s] w fun e w' => e = .returned (.tuple #[itV itZ, .int .i64 40]) ∧ Below w.heap.size w w' := by
  have S0 := Lib.hid (St.start w s 83 0 0)
  have H0 := Lib.hid h0
  clear h0
  have Hs := Lib.hid hs
  clear hs
  have Hkk := Lib.hid hk
  clear hk
  go_enter Try.func47, Try.ntmps47
  go_wp2_with fail
  refine (read_num _ s 0 0 _ _ _ _ S0.out.rd Hs.out H0.out).mono ?_
  rintro e w1 ⟨rfl, hw⟩
  have S1 := Lib.hid (S0.out.read hw)
  clear hw S0
  have BB : Below w.heap.size w w1 := S1.out.bel
  have z0 := cellsAt S1.out.res 0
  have z1 := cellsAt S1.out.res 1
  have z2 := cellsAt S1.out.res 2
  have z3 := cellsAt S1.out.res 3
  have z4 := cellsAt S1.out.res 4
  have z5 := cellsAt S1.out.res 5
  have z6 := cellsAt S1.out.res 6
  have z7 := cellsAt S1.out.res 7
  have z8 := cellsAt S1.out.res 8
  have z9 := cellsAt S1.out.res 9
  have z10 := cellsAt S1.out.res 10
  have f0 := frozAt S1.out.res 0
  have f1 := frozAt S1.out.res 1
  have f2 := frozAt S1.out.res 2
  have f3 := frozAt S1.out.res 3
  have f4 := frozAt S1.out.res 4
  have f5 := frozAt S1.out.res 5
  have f6 := frozAt S1.out.res 6
  have f7 := frozAt S1.out.res 7
  have f8 := frozAt S1.out.res 8
  have f9 := frozAt S1.out.res 9
  have f10 := frozAt S1.out.res 10
  simp [itC, itZ] at z0 z1 z2 z3 z4 z5 z6 z7 z8 z9 z10
  have q2 := cellsAt S1.out.rd 2
  simp at q2
  by_cases h1 : k < 1
  · go_wp2_with fail
    exact bodyPost_ret (v := .tuple #[.agg #[.int .i64 0, .string ⟨#[]⟩, .int .i64 0, .int .i64 0, .int .i64 0, .int .i64 0, .int .i64 0, .int .i64 0, .string ⟨#[]⟩, .int .i64 0, .int .i64 0], .int .i64 40]) (by simp [results, Try.results47, go_sem, z0, z1, z2, z3, z4, z5, z6, z7, z8, z9, z10]) rfl ⟨rfl, by repeat' (first | (with_reducible assumption) | (with_reducible refine Below.drew ?_) | (with_reducible refine Below.setCell ?_ (by show w.heap.size ≤ _; simp; try omega) _))⟩
  · have d2 : 5 < k := by have := Hkk.out; omega
    go_wp2_with fail
    exact bodyPost_ret (v := .tuple #[.agg #[.int .i64 0, .string ⟨#[]⟩, .int .i64 0, .int .i64 0, .int .i64 0, .int .i64 0, .int .i64 0, .int .i64 0, .string ⟨#[]⟩, .int .i64 0, .int .i64 0], .int .i64 40]) (by simp [results, Try.results47, go_sem, z0, z1, z2, z3, z4, z5, z6, z7, z8, z9, z10]) rfl ⟨rfl, by repeat' (first | (with_reducible assumption) | (with_reducible refine Below.drew ?_) | (with_reducible refine Below.setCell ?_ (by show w.heap.size ≤ _; simp; try omega) _))⟩
theorem getI_any (s : ByteArray) (w : World) (hs : s.size ≤ 140737488355328) (i : It) (e0 : Int) (h : getP s = (i, e0)) :
    Calls Try.prog 47 #[.string s] w fun e w' => e = .returned (.tuple #[itV i, .int .i64 e0]) ∧ Below w.heap.size w w' := by
  obtain ⟨⟨k, a, b⟩, h0⟩ : ∃ r, numP s 0 0 = r := ⟨_, rfl⟩
  by_cases hb : b = 0
  · subst hb
    by_cases hk : k < 1 ∨ 5 < k
    · rw [getP_6 h0 hk] at h; simp only [Prod.mk.injEq] at h; obtain ⟨rfl, rfl⟩ := h; exact get_6 s w hs k a h0 hk
    · have hk' : k = 1 ∨ k = 2 ∨ k = 3 ∨ k = 4 ∨ k = 5 := by omega
      rcases hk' with rfl | rfl | rfl | rfl | rfl
      · obtain ⟨⟨v1, a1, b1⟩, h1⟩ : ∃ r, txtP s a 0 = r := ⟨_, rfl⟩
        obtain ⟨⟨v2, a2, b2⟩, h2⟩ : ∃ r, numP s a1 b1 = r := ⟨_, rfl⟩
        obtain ⟨⟨v3, a3, b3⟩, h3⟩ : ∃ r, sgnP s a2 b2 = r := ⟨_, rfl⟩
        rw [getP_1 h0 h1 h2 h3] at h
        exact get_1 s w hs a h0 v1 a1 b1 h1 v2 a2 b2 h2 v3 a3 b3 h3 _ h
      · obtain ⟨⟨v1, a1, b1⟩, h1⟩ : ∃ r, numP s a 0 = r := ⟨_, rfl⟩
        rw [getP_2 h0 h1] at h
        exact get_2 s w hs a h0 v1 a1 b1 h1 _ h
      · rw [getP_3 h0] at h
        exact get_3 s w hs a h0 _ h
      · obtain ⟨⟨v1, a1, b1⟩, h1⟩ : ∃ r, numP s a 0 = r := ⟨_, rfl⟩
        rw [getP_4 h0 h1] at h
        exact get_4 s w hs a h0 v1 a1 b1 h1 _ h
      · obtain ⟨⟨v1, a1, b1⟩, h1⟩ : ∃ r, txtP s a 0 = r := ⟨_, rfl⟩
        obtain ⟨⟨v2, a2, b2⟩, h2⟩ : ∃ r, numP s a1 b1 = r := ⟨_, rfl⟩
        obtain ⟨⟨v3, a3, b3⟩, h3⟩ : ∃ r, numP s a2 b2 = r := ⟨_, rfl⟩
        obtain ⟨⟨v4, a4, b4⟩, h4⟩ : ∃ r, numP s a3 b3 = r := ⟨_, rfl⟩
        obtain ⟨⟨v5, a5, b5⟩, h5⟩ : ∃ r, sgnP s a4 b4 = r := ⟨_, rfl⟩
        rw [getP_5 h0 h1 h2 h3 h4 h5] at h
        exact get_5 s w hs a h0 v1 a1 b1 h1 v2 a2 b2 h2 v3 a3 b3 h3 v4 a4 b4 h4 v5 a5 b5 h5 _ h
  · obtain rfl := numP_zero h0 hb
    exact get_0 s w hs a b h0 hb (i, e0) (by rw [← h, getP_0 h0 hb]; unfold fin; rw [if_pos hb])
theorem rgetI_any (s : ByteArray) (w : World) (hs : s.size ≤ 140737488355328) (i : It) (e0 : Int) (h : getP s = (i, e0)) :
    Calls Try.prog 48 #[.string s] w fun e w' => e = .returned (.tuple #[itV i, .int .i64 e0]) ∧ Below w.heap.size w w' := by
  obtain ⟨⟨k, a, b⟩, h0⟩ : ∃ r, numP s 0 0 = r := ⟨_, rfl⟩
  by_cases hb : b = 0
  · subst hb
    by_cases hk : k < 1 ∨ 5 < k
    · rw [getP_6 h0 hk] at h; simp only [Prod.mk.injEq] at h; obtain ⟨rfl, rfl⟩ := h; exact rget_6 s w hs k a h0 hk
    · have hk' : k = 1 ∨ k = 2 ∨ k = 3 ∨ k = 4 ∨ k = 5 := by omega
      rcases hk' with rfl | rfl | rfl | rfl | rfl
      · obtain ⟨⟨v1, a1, b1⟩, h1⟩ : ∃ r, txtP s a 0 = r := ⟨_, rfl⟩
        obtain ⟨⟨v2, a2, b2⟩, h2⟩ : ∃ r, numP s a1 b1 = r := ⟨_, rfl⟩
        obtain ⟨⟨v3, a3, b3⟩, h3⟩ : ∃ r, sgnP s a2 b2 = r := ⟨_, rfl⟩
        rw [getP_1 h0 h1 h2 h3] at h
        exact rget_1 s w hs a h0 v1 a1 b1 h1 v2 a2 b2 h2 v3 a3 b3 h3 _ h
      · obtain ⟨⟨v1, a1, b1⟩, h1⟩ : ∃ r, numP s a 0 = r := ⟨_, rfl⟩
        rw [getP_2 h0 h1] at h
        exact rget_2 s w hs a h0 v1 a1 b1 h1 _ h
      · rw [getP_3 h0] at h
        exact rget_3 s w hs a h0 _ h
      · obtain ⟨⟨v1, a1, b1⟩, h1⟩ : ∃ r, numP s a 0 = r := ⟨_, rfl⟩
        rw [getP_4 h0 h1] at h
        exact rget_4 s w hs a h0 v1 a1 b1 h1 _ h
      · obtain ⟨⟨v1, a1, b1⟩, h1⟩ : ∃ r, txtP s a 0 = r := ⟨_, rfl⟩
        obtain ⟨⟨v2, a2, b2⟩, h2⟩ : ∃ r, numP s a1 b1 = r := ⟨_, rfl⟩
        obtain ⟨⟨v3, a3, b3⟩, h3⟩ : ∃ r, numP s a2 b2 = r := ⟨_, rfl⟩
        obtain ⟨⟨v4, a4, b4⟩, h4⟩ : ∃ r, numP s a3 b3 = r := ⟨_, rfl⟩
        obtain ⟨⟨v5, a5, b5⟩, h5⟩ : ∃ r, sgnP s a4 b4 = r := ⟨_, rfl⟩
        rw [getP_5 h0 h1 h2 h3 h4 h5] at h
        exact rget_5 s w hs a h0 v1 a1 b1 h1 v2 a2 b2 h2 v3 a3 b3 h3 v4 a4 b4 h4 v5 a5 b5 h5 _ h
  · obtain rfl := numP_zero h0 hb
    exact rget_0 s w hs a b h0 hb (i, e0) (by rw [← h, getP_0 h0 hb]; unfold fin; rw [if_pos hb])
end Go.Proofs.Ytgpifbdjcoiilaa
