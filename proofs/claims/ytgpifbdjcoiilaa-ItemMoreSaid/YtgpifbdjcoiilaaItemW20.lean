/-
  WORDS for the walks of Get: three blocks of the call's own.
-/
import Derived.Test.YtgpifbdjcoiilaaItemGetP
namespace Go.Proofs.Ytgpifbdjcoiilaa
open Go.RowKit

def itC (i : It) : Array Value := #[.int .i64 i.kind, .string i.ek, .int .i64 i.ea, .int .i64 i.ev, .int .i64 i.ma, .int .i64 i.n, .int .i64 i.lo, .int .i64 i.hi, .string i.rk, .int .i64 i.rn, .int .i64 i.rv]
theorem itV_C (i : It) : itV i = .agg (itC i) := rfl
theorem ReadTo.below {w0 w w' : World} {g : Nat} {T : TypeId} {s : ByteArray} {a b : Int} (hw : ReadTo g T s a b w w') (h : Below w0.heap.size w0 w) (hg : w0.heap.size ≤ g) : Below w0.heap.size w0 w' :=
  ⟨hw.2.2.1.trans h.os, hw.2.2.2.1.trans h.tape, hw.2.2.2.2.1.trans h.output, by rw [hw.2.2.2.2.2]; exact h.size, fun k hk => (hw.2.1 k (by omega)).trans (h.block k hk)⟩
/-- The blocks of a walk of Get that began in w: the result (g), the reader (g + 1), the item (g + 1 + 1). -/
structure St (w : World) (g : Nat) (W : World) (T : TypeId) (s : ByteArray) (a b : Int) (i : It) : Prop where
  g0 : g = w.heap.size
  res : W.heap[g]? = some (.cells (itC itZ) 57 (0, 0))
  rd : W.heap[g + 1]? = some (.cells #[.string s, .int .i64 a, .int .i64 b] T (0, 0))
  it : W.heap[g + 1 + 1]? = some (.cells (itC i) 57 (0, 0))
  size : W.heap.size = g + 3
  bel : Below w.heap.size w W
theorem St.read {w W W' : World} {g : Nat} {T : TypeId} {s : ByteArray} {a b a' b' : Int} {i : It} (h : St w g W T s a b i) (hw : ReadTo (g + 1) T s a' b' W W') : St w g W' T s a' b' i :=
  ⟨h.g0, (hw.2.1 _ (by omega)).trans h.res, hw.1, (hw.2.1 _ (by omega)).trans h.it, hw.2.2.2.2.2.trans h.size, hw.below h.bel (by have := h.g0; omega)⟩
theorem St.put {w W : World} {g : Nat} {T : TypeId} {s : ByteArray} {a b : Int} {i : It} (h : St w g W T s a b i) (j : Nat) (v : Value) (i' : It) (hi : (itC i).setIfInBounds j v = itC i') : St w g (W.setCell ⟨g + 1 + 1, j, none⟩ v) T s a b i' := by
  refine ⟨h.g0, (Below.heap_setCell W ⟨g + 1 + 1, j, none⟩ v _ (by show g ≠ g + 1 + 1; omega)).trans h.res, (Below.heap_setCell W ⟨g + 1 + 1, j, none⟩ v _ (by show g + 1 ≠ g + 1 + 1; omega)).trans h.rd, ?_, ?_, h.bel.setCell (by have := h.g0; show w.heap.size ≤ g + 1 + 1; omega) v⟩
  · rw [← hi]
    have := h.it
    simp [World.setCell, Array.getElem?_modify, this]
  · simpa [World.setCell] using h.size
theorem St.bad {w W : World} {g : Nat} {T : TypeId} {s : ByteArray} {a b : Int} {i : It} (h : St w g W T s a b i) (b' : Int) : St w g (W.setCell ⟨g + 1, 2, none⟩ (.int .i64 b')) T s a b' i := by
  refine ⟨h.g0, (Below.heap_setCell W ⟨g + 1, 2, none⟩ _ _ (by show g ≠ g + 1; omega)).trans h.res, ?_, (Below.heap_setCell W ⟨g + 1, 2, none⟩ _ _ (by show g + 1 + 1 ≠ g + 1; omega)).trans h.it, ?_, h.bel.setCell (by have := h.g0; show w.heap.size ≤ g + 1; omega) _⟩
  · have := h.rd
    simp [World.setCell, Array.getElem?_modify, this]
  · simpa [World.setCell] using h.size
theorem St.drew {w W : World} {g : Nat} {T : TypeId} {s : ByteArray} {a b : Int} {i : It} (h : St w g W T s a b i) : St w g W.drew T s a b i := ⟨h.g0, h.res, h.rd, h.it, h.size, h.bel.drew⟩
theorem St.kept {w W W' : World} {g : Nat} {T : TypeId} {s : ByteArray} {a b : Int} {i : It} (h : St w g W T s a b i) (hb : Below W.heap.size W W') :
    W'.heap[g]? = some (.cells (itC itZ) 57 (0, 0)) ∧ W'.heap[g + 1]? = some (.cells #[.string s, .int .i64 a, .int .i64 b] T (0, 0)) ∧ W'.heap[g + 1 + 1]? = some (.cells (itC i) 57 (0, 0)) ∧ Below w.heap.size w W' :=
  ⟨(hb.block g (by have := h.size; omega)).trans h.res, (hb.block _ (by have := h.size; omega)).trans h.rd, (hb.block _ (by have := h.size; omega)).trans h.it, h.bel.trans (hb.mono (by have := h.size; have := h.g0; omega))⟩
theorem cellsAt {W : World} {g : Nat} {cs : Array Value} {T : TypeId} (h : W.heap[g]? = some (.cells cs T (0, 0))) (j : Nat) : W.cell? ⟨g, j, none⟩ = cs[j]? := Lib.cell_of_heap h j
theorem frozAt {W : World} {g : Nat} {cs : Array Value} {T : TypeId} (h : W.heap[g]? = some (.cells cs T (0, 0))) (j : Nat) : W.frozen? ⟨g, j, none⟩ = false := by simp [World.frozen?, h]
theorem St.start (w : World) (s : ByteArray) (T : TypeId) (k : Int) (k0 : Int) : St w w.heap.size (((w.alloc (.cells (itC itZ) 57)).alloc (.cells #[.string s, .int .i64 0, .int .i64 k0] T)).alloc (.cells (itC { itZ with kind := k }) 57)) T s 0 k0 { itZ with kind := k } := by
  obtain ⟨A, hA⟩ : ∃ A : Obj, A = .cells (itC itZ) 57 := ⟨_, rfl⟩
  obtain ⟨B, hB⟩ : ∃ B : Obj, B = .cells #[.string s, .int .i64 0, .int .i64 k0] T := ⟨_, rfl⟩
  obtain ⟨C, hC⟩ : ∃ C : Obj, C = .cells (itC { itZ with kind := k }) 57 := ⟨_, rfl⟩
  rw [← hA, ← hB, ← hC]
  have e1 : (w.alloc A).heap.size = w.heap.size + 1 := by simp
  have e2 : ((w.alloc A).alloc B).heap.size = w.heap.size + 1 + 1 := by simp
  have e3 : (((w.alloc A).alloc B).alloc C).heap.size = w.heap.size + 3 := by simp
  refine ⟨rfl, ?_, ?_, ?_, e3, bel_alloc (bel_alloc (bel_alloc (Below.refl _ _) _) _) _⟩
  · rw [← hA]
    exact (Below.heap_alloc _ C _ (by omega)).trans ((Below.heap_alloc _ B _ (by omega)).trans (heap_alloc_new w A))
  · rw [← hB, ← e1]
    exact (Below.heap_alloc _ C _ (by omega)).trans (heap_alloc_new _ B)
  · rw [← hC, ← e2]
    exact heap_alloc_new _ C
/-- How Get ends. -/
def fin (s : ByteArray) (i : It) (a b : Int) : It × Int :=
  if b ≠ 0 then (itZ, b) else if a < (s.size : Int) then (itZ, 21) else if rightI i = false then (itZ, 1) else (i, 0)
theorem fin_b {s : ByteArray} {i : It} {a b : Int} {R : It × Int} (h : fin s i a b = R) (hb : b ≠ 0) : R = (itZ, b) := by
  rw [← h]; unfold fin; rw [if_pos hb]
theorem fin_a {s : ByteArray} {i : It} {a : Int} {R : It × Int} (h : fin s i a 0 = R) (ha : a < (s.size : Int)) : R = (itZ, 21) := by
  rw [← h]; unfold fin; rw [if_neg (by simp), if_pos ha]
theorem fin_r {s : ByteArray} {i : It} {a : Int} {R : It × Int} (h : fin s i a 0 = R) (ha : ¬ a < (s.size : Int)) (hr : rightI i = false) : R = (itZ, 1) := by
  rw [← h]; unfold fin; rw [if_neg (by simp), if_neg ha, if_pos hr]
theorem fin_i {s : ByteArray} {i : It} {a : Int} {R : It × Int} (h : fin s i a 0 = R) (ha : ¬ a < (s.size : Int)) (hr : rightI i = true) : R = (i, 0) := by
  rw [← h]; unfold fin; rw [if_neg (by simp), if_neg ha, if_neg (by rw [hr]; simp)]
end Go.Proofs.Ytgpifbdjcoiilaa
