/-
  What a job and a row of events that came in are.
-/
import Derived.Test.YtlboehpgpbchhaaRowsArg
import Derived.Test.YtlboehpgpbchhaaTopW3
set_option linter.unusedVariables false
set_option linter.unusedSimpArgs false
namespace Go.Proofs.Ytlboehpgpbchhaa
open Go.ChangeShapes Go.WideShapes Go.ChangeAt Go.RowKit Go.Deep

section
variable {H : Type} {enc : TypeId × Value → H} {W : World} {base : Nat} {spare : Nat → Bool} {held : Bool}
theorem cellsK2 : Try.prog.cellsOf 2 = 1 := by kernel_rfl
theorem cellsK3 : Try.prog.cellsOf 3 = 1 := by kernel_rfl
theorem cellsK9 : Try.prog.cellsOf 9 = 1 := by kernel_rfl
theorem cellsEv : Try.prog.cellsOf 93 = 3 := by kernel_rfl
theorem cellsJb : Try.prog.cellsOf 46 = 8 := by kernel_rfl
theorem openEv {n : Nat} {cs : List Value} {z : DataW H × List MemPlace} (h : DataW.trod enc Try.prog W base spare held n 93 cs = some z) (hl : cs.length = 3) : ∃ x : Ev, cs = x.cs ∧ x.Wf := by
  match cs, hl with
  | [c0, c1, c2], _ =>
    obtain ⟨xs, m, _, _, _, hlen, hg⟩ := DataW.trod_struct Try.underlying93 h
    match xs, hlen with
    | [y0, y1, y2], _ =>
      obtain ⟨k, e0, _, b0⟩ := DataW.trod_string Try.underlying9 (x := y0) (by simpa [cellsK9] using hg 0 _ rfl)
      obtain ⟨a, e1, _, b1⟩ := DataW.trod_int Try.underlying2 (x := y1) (by simpa [cellsK2] using hg 1 _ rfl)
      obtain ⟨v, e2, _, b2⟩ := DataW.trod_int Try.underlying2 (x := y2) (by simpa [cellsK2] using hg 2 _ rfl)
      simp at e0 e1 e2
      exact ⟨⟨k, a, v⟩, by rw [e0, e1, e2]; rfl, b0, i64_bd b1, i64_bd b2⟩
/-- Events, as they came in. -/
def EvIn (W : World) (v : Value) (l : List Ev) : Prop := Row Ev.cs 3 W v l ∧ (∀ x ∈ l, x.Wf) ∧ l.length ≤ maxLen
set_option maxRecDepth 100000 in
theorem arg_events {r : Reach} {b : Nat} {v : Value} {d : DataW H} {p : List MemPlace} (hok : Value.okWide Try.prog W r b 94 v) (h : DataW.Trod enc Try.prog W base spare held 94 v d p) :
    ∃ x, v = x ∧ ∃ l, EvIn W x l := by
  obtain ⟨a, n, c, rfl⟩ := okWide_slice Try.underlying94 hok
  obtain ⟨fuel, hf⟩ := h
  obtain ⟨l, h1, h2, h3⟩ := open_rows (enc := enc) (W := W) (base := base) (spare := spare) (held := held) (c := .slice a n c) Try.underlying94 cellsEv (by decide) Ev.cs_len openEv (by simpa [Value.cells] using hf)
  exact ⟨_, rfl, l, h1, h2, h3⟩
/-- The integers of a job that came in. -/
structure JIn (j : Jb) : Prop where
  g : -9223372036854775808 ≤ j.g ∧ j.g ≤ 9223372036854775807
  s : -9223372036854775808 ≤ j.s ∧ j.s ≤ 9223372036854775807
  d : -9223372036854775808 ≤ j.d ∧ j.d ≤ 9223372036854775807
  f : -9223372036854775808 ≤ j.f ∧ j.f ≤ 9223372036854775807
  u : -9223372036854775808 ≤ j.u ∧ j.u ≤ 9223372036854775807
  l : -9223372036854775808 ≤ j.l ∧ j.l ≤ 9223372036854775807
  y : -9223372036854775808 ≤ j.y ∧ j.y ≤ 9223372036854775807
  i : -9223372036854775808 ≤ j.i ∧ j.i ≤ 9223372036854775807
set_option maxRecDepth 100000 in
theorem arg_job {r : Reach} {b : Nat} {v : Value} {d : DataW H} {p : List MemPlace} (hok : Value.okWide Try.prog W r b 46 v) (h : DataW.Trod enc Try.prog W base spare held 46 v d p) :
    ∃ x, v = x ∧ ∃ j : Jb, x = .agg j.cs ∧ JIn j := by
  obtain ⟨cs, rfl, hsz⟩ := okWide_struct Try.underlying46 hok
  obtain ⟨l⟩ := cs
  match l, hsz.trans cellsJb with
  | [c0, c1, c2, c3, c4, c5, c6, c7], _ =>
    obtain ⟨fuel, hf⟩ := h
    obtain ⟨xs, m, _, _, _, hlen, hg⟩ := DataW.trod_struct Try.underlying46 hf
    match xs, hlen with
    | [y0, y1, y2, y3, y4, y5, y6, y7], _ =>
      obtain ⟨x0, e0, _, b0⟩ := DataW.trod_int Try.underlying3 (x := y0) (by simpa [Value.cells, cellsK3] using hg 0 _ rfl)
      obtain ⟨x1, e1, _, b1⟩ := DataW.trod_int Try.underlying2 (x := y1) (by simpa [Value.cells, cellsK2] using hg 1 _ rfl)
      obtain ⟨x2, e2, _, b2⟩ := DataW.trod_int Try.underlying2 (x := y2) (by simpa [Value.cells, cellsK2] using hg 2 _ rfl)
      obtain ⟨x3, e3, _, b3⟩ := DataW.trod_int Try.underlying3 (x := y3) (by simpa [Value.cells, cellsK3] using hg 3 _ rfl)
      obtain ⟨x4, e4, _, b4⟩ := DataW.trod_int Try.underlying3 (x := y4) (by simpa [Value.cells, cellsK3] using hg 4 _ rfl)
      obtain ⟨x5, e5, _, b5⟩ := DataW.trod_int Try.underlying2 (x := y5) (by simpa [Value.cells, cellsK2] using hg 5 _ rfl)
      obtain ⟨x6, e6, _, b6⟩ := DataW.trod_int Try.underlying2 (x := y6) (by simpa [Value.cells, cellsK2] using hg 6 _ rfl)
      obtain ⟨x7, e7, _, b7⟩ := DataW.trod_int Try.underlying3 (x := y7) (by simpa [Value.cells, cellsK3] using hg 7 _ rfl)
      simp at e0 e1 e2 e3 e4 e5 e6 e7
      subst e0 e1 e2 e3 e4 e5 e6 e7
      exact ⟨_, rfl, ⟨x0, x1, x2, x3, x4, x5, x6, x7⟩, rfl, i64_bd b0, i64_bd b1, i64_bd b2, i64_bd b3, i64_bd b4, i64_bd b5, i64_bd b6, i64_bd b7⟩
end
end Go.Proofs.Ytlboehpgpbchhaa
