/-
  WORDS for the walk of the reference's Get: two blocks, then three; its reader keeps the value and the error of the item's.
-/
import Derived.Test.YtgpifbdjcoiilaaItemW20
import Derived.Test.YtgpifbdjcoiilaaVlqL4
namespace Go.Proofs.Ytgpifbdjcoiilaa
open Go.RowKit

structure Sp (w : World) (g : Nat) (W : World) (T : TypeId) (s : ByteArray) (a b : Int) : Prop where
  g0 : g = w.heap.size
  res : W.heap[g]? = some (.cells (itC itZ) 57 (0, 0))
  rd : W.heap[g + 1]? = some (.cells #[.string s, .int .i64 a, .int .i64 b] T (0, 0))
  size : W.heap.size = g + 1 + 1
  bel : Below w.heap.size w W
theorem Sp.read {w W W' : World} {g : Nat} {T : TypeId} {s : ByteArray} {a b a' b' : Int} (h : Sp w g W T s a b) (hw : ReadTo (g + 1) T s a' b' W W') : Sp w g W' T s a' b' :=
  ⟨h.g0, (hw.2.1 _ (by omega)).trans h.res, hw.1, hw.2.2.2.2.2.trans h.size, hw.below h.bel (by have := h.g0; omega)⟩
theorem Sp.bad {w W : World} {g : Nat} {T : TypeId} {s : ByteArray} {a b : Int} (h : Sp w g W T s a b) (b' : Int) : Sp w g (W.setCell ⟨g + 1, 2, none⟩ (.int .i64 b')) T s a b' := by
  refine ⟨h.g0, (Below.heap_setCell W ⟨g + 1, 2, none⟩ _ _ (by show g ≠ g + 1; omega)).trans h.res, ?_, ?_, h.bel.setCell (by have := h.g0; show w.heap.size ≤ g + 1; omega) _⟩
  · have := h.rd
    simp [World.setCell, Array.getElem?_modify, this]
  · simpa [World.setCell] using h.size
theorem Sp.item {w W : World} {g : Nat} {T : TypeId} {s : ByteArray} {a b : Int} (h : Sp w g W T s a b) (i : It) : St w g (W.alloc (.cells (itC i) 57)) T s a b i := by
  have e := h.size
  refine ⟨h.g0, (Below.heap_alloc _ _ _ (by omega)).trans h.res, (Below.heap_alloc _ _ _ (by omega)).trans h.rd, ?_, by simp; omega, bel_alloc h.bel _⟩
  rw [← e]
  exact heap_alloc_new _ _
theorem Sp.start (w : World) (s : ByteArray) (T : TypeId) (k0 : Int) : Sp w w.heap.size ((w.alloc (.cells (itC itZ) 57)).alloc (.cells #[.string s, .int .i64 0, .int .i64 k0] T)) T s 0 k0 := by
  obtain ⟨A, hA⟩ : ∃ A : Obj, A = .cells (itC itZ) 57 := ⟨_, rfl⟩
  obtain ⟨B, hB⟩ : ∃ B : Obj, B = .cells #[.string s, .int .i64 0, .int .i64 k0] T := ⟨_, rfl⟩
  rw [← hA, ← hB]
  have e1 : (w.alloc A).heap.size = w.heap.size + 1 := by simp
  have e2 : ((w.alloc A).alloc B).heap.size = w.heap.size + 1 + 1 := by simp
  refine ⟨rfl, ?_, ?_, e2, bel_alloc (bel_alloc (Below.refl _ _) _) _⟩
  · rw [← hA]
    exact (Below.heap_alloc _ B _ (by omega)).trans (heap_alloc_new w A)
  · rw [← hB, ← e1]
    exact heap_alloc_new _ B
theorem rnum_of {s : ByteArray} {a a2 b v a' b' : Int} (h : numP s a b = (v, a', b')) (ha : b = 0 → a2 = a) : ∃ x, rnumP s a2 b = (v, x, b') ∧ (b' = 0 → x = a') := by
  unfold numP at h
  unfold rnumP
  by_cases hb : b = 0
  · subst hb
    rw [ha rfl, if_neg (by simp)]
    rw [if_neg (by simp)] at h
    obtain ⟨⟨n, tt, er⟩, hr⟩ : ∃ r, getR s.data.toList a = r := ⟨_, rfl⟩
    have hf := rdAt_facts hr (by decide)
    rw [hr] at h ⊢
    simp only at h ⊢
    by_cases he : er = 0
    · rw [if_pos he] at h
      simp only [Prod.mk.injEq] at h
      obtain ⟨rfl, rfl, rfl⟩ := h
      exact ⟨tt, by rw [he], fun _ => rfl⟩
    · rw [if_neg he] at h
      simp only [Prod.mk.injEq] at h
      obtain ⟨rfl, rfl, rfl⟩ := h
      exact ⟨tt, by rw [show n = 0 by omega]; rfl, fun h => absurd h he⟩
  · rw [if_pos hb] at h ⊢
    simp only [Prod.mk.injEq] at h
    obtain ⟨rfl, rfl, rfl⟩ := h
    exact ⟨a2, rfl, ha⟩
theorem rsgn_of {s : ByteArray} {a a2 b v a' b' : Int} (h : sgnP s a b = (v, a', b')) (ha : b = 0 → a2 = a) : ∃ x, rsgnP s a2 b = (v, x, b') ∧ (b' = 0 → x = a') := by
  unfold sgnP at h
  unfold rsgnP
  by_cases hb : b = 0
  · subst hb
    rw [ha rfl, if_neg (by simp)]
    rw [if_neg (by simp)] at h
    obtain ⟨⟨n, tt, er⟩, hr⟩ : ∃ r, gsR s.data.toList a = r := ⟨_, rfl⟩
    have hf := rdAt_facts hr (by decide)
    rw [hr] at h ⊢
    simp only at h ⊢
    by_cases he : er = 0
    · rw [if_pos he] at h
      simp only [Prod.mk.injEq] at h
      obtain ⟨rfl, rfl, rfl⟩ := h
      exact ⟨tt, by rw [he], fun _ => rfl⟩
    · rw [if_neg he] at h
      simp only [Prod.mk.injEq] at h
      obtain ⟨rfl, rfl, rfl⟩ := h
      exact ⟨tt, by rw [show n = 0 by omega]; rfl, fun h => absurd h he⟩
  · rw [if_pos hb] at h ⊢
    simp only [Prod.mk.injEq] at h
    obtain ⟨rfl, rfl, rfl⟩ := h
    exact ⟨a2, rfl, ha⟩
theorem rtxt_of {s : ByteArray} {a a2 b : Int} {v : ByteArray} {a' b' : Int} (h : txtP s a b = (v, a', b')) (ha : b = 0 → a2 = a) : ∃ x, rtxtP s a2 b = (v, x, b') ∧ (b' = 0 → x = a') := by
  unfold txtP at h
  unfold rtxtP
  by_cases hb : b = 0
  · subst hb
    rw [ha rfl, if_neg (by simp)]
    rw [if_neg (by simp)] at h
    obtain ⟨⟨y, tt, er⟩, hr⟩ : ∃ r, gtR s a = r := ⟨_, rfl⟩
    rw [hr] at h ⊢
    simp only at h ⊢
    by_cases he : er = 0
    · rw [if_pos he] at h
      simp only [Prod.mk.injEq] at h
      obtain ⟨rfl, rfl, rfl⟩ := h
      exact ⟨tt, by rw [he], fun _ => rfl⟩
    · rw [if_neg he] at h
      simp only [Prod.mk.injEq] at h
      obtain ⟨rfl, rfl, rfl⟩ := h
      obtain ⟨rfl, -⟩ := gtR_err hr he
      exact ⟨tt, rfl, fun h => absurd h he⟩
  · rw [if_pos hb] at h ⊢
    simp only [Prod.mk.injEq] at h
    obtain ⟨rfl, rfl, rfl⟩ := h
    exact ⟨a2, rfl, ha⟩
end Go.Proofs.Ytgpifbdjcoiilaa
