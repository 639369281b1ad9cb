/-
  WORDS of layer 18: rows of an aligner that is one's own.
-/
import Derived.Test.YtenpgkkefielfaaAlignW14
import Derived.Test.YtenpgkkefielfaaRowsPush
set_option linter.unusedVariables false
set_option linter.unusedSimpArgs false
namespace Go.Proofs.Ytenpgkkefielfaa
open Go.RowKit

theorem heldB {W W' : World} {l : List Hl} (h : ∀ x ∈ l, x.At W) (hb : Below W.heap.size W W') : ∀ x ∈ l, x.At W' := fun x hx => (h x hx).below hb
/-- A row of one's own lies in no block of another type. -/
theorem own_at_ne {w : World} {base : Nat} {e T : TypeId} {size n c g p : Nat} {xs : List Value} {cs : Array Value} (h : w.ownsRow base e size (.slice (some ⟨g, 0, none⟩) n c) n xs) (hp : w.heap[p]? = some (.cells cs T (0, 0))) (hne : e ≠ T) : g ≠ p := by
  rintro rfl
  rcases h.2 with ⟨e1, -⟩ | ⟨g', cap, cur, e1, -, hg, -⟩
  · cases e1
  · injection e1 with e1
    injection e1 with e1
    injection e1 with e1
    subst e1
    rw [hg] at hp
    injection hp with hp
    injection hp with _ h2 _
    exact hne h2
theorem own_away {W : World} {base : Nat} {e : TypeId} {size n : Nat} {v : Value} {xs : List Value} (h : W.ownsRow base e size v n xs) {g : Nat} (hne : v.ownBlock = none ∨ v.ownBlock ≠ some g) (j : Nat) (u : Value) : (W.setCell ⟨g, j, none⟩ u).ownsRow base e size v n xs :=
  h.kept (grown_set W ⟨g, j, none⟩ u) hne
theorem own_held {W : World} {base g c n : Nat} {l : List Hl} (h : W.ownsRow base 32 1 (.slice (some ⟨g, 0, none⟩) n c) n (l.flatMap Hl.cs)) {N : Nat} (hN : N < l.length) (y : Hl) :
    (W.setCell ⟨g, N, none⟩ y.row).ownsRow base 32 1 (.slice (some ⟨g, 0, none⟩) n c) n ((l.set N y).flatMap Hl.cs) := by
  have h1 := (h.stored (N * 1 + 0) y.row).1
  rw [flat_set Hl.cs_len (x' := y) (List.getElem?_eq_getElem hN) (by decide) rfl] at h1
  simpa using h1
theorem own_got {W : World} {base g c n : Nat} {l : List Bool} (h : W.ownsRow base 4 1 (.slice (some ⟨g, 0, none⟩) n c) n (l.flatMap bCs)) {N : Nat} (hN : N < l.length) (y : Bool) :
    (W.setCell ⟨g, N, none⟩ (.bool y)).ownsRow base 4 1 (.slice (some ⟨g, 0, none⟩) n c) n ((l.set N y).flatMap bCs) := by
  have h1 := (h.stored (N * 1 + 0) (.bool y)).1
  rw [flat_set bCs_len (x' := y) (List.getElem?_eq_getElem hN) (by decide) rfl] at h1
  simpa using h1
end Go.Proofs.Ytenpgkkefielfaa
