/-
  What a store and cells that came in are.
-/
import Derived.Test.YtlboehpgpbchhaaRowsArg
import Derived.Test.YtlboehpgpbchhaaStoreW7
set_option linter.unusedVariables false
set_option linter.unusedSimpArgs false
namespace Go.Proofs.Ytlboehpgpbchhaa
open Go.ChangeShapes Go.WideShapes Go.ChangeAt Go.RowKit Go.Deep

section
variable {H : Type} {enc : TypeId × Value → H} {W : World} {base : Nat} {spare : Nat → Bool} {held : Bool}
theorem cells4 : Try.prog.cellsOf 4 = 1 := by kernel_rfl
theorem cells9 : Try.prog.cellsOf 9 = 1 := by kernel_rfl
theorem cellsC : Try.prog.cellsOf 43 = 2 := by kernel_rfl
theorem cellsLC : Try.prog.cellsOf 22 = 1 := by kernel_rfl
theorem cellsS : Try.prog.cellsOf 24 = 3 := by kernel_rfl
theorem openCl {n : Nat} {cs : List Value} {z : DataW H × List MemPlace} (h : DataW.trod enc Try.prog W base spare held n 43 cs = some z) (hl : cs.length = 2) : ∃ x : Cl, cs = x.cs ∧ x.Ok := by
  match cs, hl with
  | [c0, c1], _ =>
    obtain ⟨xs, m, _, _, _, hlen, hg⟩ := DataW.trod_struct Try.underlying43 h
    match xs, hlen with
    | [y0, y1], _ =>
      obtain ⟨a, e0, _, b0⟩ := DataW.trod_string Try.underlying9 (x := y0) (by simpa [cells9] using hg 0 _ rfl)
      obtain ⟨b, e1, _, b1⟩ := DataW.trod_string Try.underlying9 (x := y1) (by simpa [cells9] using hg 1 _ rfl)
      simp at e0 e1
      exact ⟨⟨a, b⟩, by rw [e0, e1]; rfl, b0, b1⟩
/-- Cells, as they came in. -/
def ClIn (W : World) (v : Value) (l : List Cl) : Prop := Row Cl.cs 2 W v l ∧ (∀ x ∈ l, x.Ok) ∧ l.length ≤ maxLen
theorem ClIn.below {W W' : World} {v : Value} {l : List Cl} (h : ClIn W v l) (hb : Below W.heap.size W W') : ClIn W' v l := ⟨h.1.below hb, h.2⟩
theorem ClIn.ok {W : World} {v : Value} {l : List Cl} (h : ClIn W v l) (hl : l.length ≤ 1000000) : OkRow W v l := ⟨h.1, h.2.1, hl⟩
theorem open_cls {n : Nat} {c : Value} {z : DataW H × List MemPlace} (h : DataW.trod enc Try.prog W base spare held n 22 [c] = some z) : ∃ l, ClIn W c l := by
  obtain ⟨l, h1, h2, h3⟩ := open_rows (c := c) (y := z) Try.underlying22 cellsC (by decide) Cl.cs_len openCl h
  exact ⟨l, h1, h2, h3⟩
set_option maxRecDepth 100000 in
theorem arg_store {r : Reach} {b : Nat} {v : Value} {d : DataW H} {p : List MemPlace} (hok : Value.okWide Try.prog W r b 24 v) (h : DataW.Trod enc Try.prog W base spare held 24 v d p) :
    ∃ x, v = x ∧ ∃ s, StIn W x s := by
  obtain ⟨cs, rfl, hsz⟩ := okWide_struct Try.underlying24 hok
  obtain ⟨l⟩ := cs
  match l, hsz.trans cellsS with
  | [c0, c1, c2], _ =>
    obtain ⟨fuel, hf⟩ := h
    obtain ⟨xs, m, _, _, _, hlen, hg⟩ := DataW.trod_struct Try.underlying24 hf
    match xs, hlen with
    | [y0, y1, y2], _ =>
      obtain ⟨lc, r1, w1, l1⟩ := open_cls (enc := enc) (W := W) (base := base) (spare := spare) (held := held) (n := m) (c := c0) (z := y0) (by simpa [Value.cells, cellsLC] using hg 0 _ rfl)
      obtain ⟨lf, r2, w2, l2⟩ := open_cls (enc := enc) (W := W) (base := base) (spare := spare) (held := held) (n := m) (c := c1) (z := y1) (by simpa [Value.cells, cellsLC] using hg 1 _ rfl)
      obtain ⟨d, e2, _⟩ := DataW.trod_bool Try.underlying4 (x := y2) (by simpa [Value.cells, cells4] using hg 2 _ rfl)
      simp at e2
      subst e2
      exact ⟨_, rfl, ⟨lc, lf, d⟩, c0, c1, rfl, r1, r2, w1, w2, l1, l2⟩
set_option maxRecDepth 100000 in
theorem arg_cells {r : Reach} {b : Nat} {v : Value} {d : DataW H} {p : List MemPlace} (hok : Value.okWide Try.prog W r b 22 v) (h : DataW.Trod enc Try.prog W base spare held 22 v d p) :
    ∃ x, v = x ∧ ∃ l, ClIn W x l := by
  obtain ⟨a, n, c, rfl⟩ := okWide_slice Try.underlying22 hok
  obtain ⟨fuel, hf⟩ := h
  obtain ⟨l, hl⟩ := open_cls (enc := enc) (W := W) (base := base) (spare := spare) (held := held) (c := .slice a n c) (by simpa [Value.cells] using hf)
  exact ⟨_, rfl, l, hl⟩
end
end Go.Proofs.Ytlboehpgpbchhaa
