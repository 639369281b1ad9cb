/-
  What a group that came in is.
-/
import Derived.Test.YtlboehpgpbchhaaRowsArg
import Derived.Test.YtlboehpgpbchhaaTopW5
set_option linter.unusedVariables false
set_option linter.unusedSimpArgs false
namespace Go.Proofs.Ytlboehpgpbchhaa
open Go.ChangeShapes Go.WideShapes Go.ChangeAt Go.RowKit Go.Deep

section
variable {H : Type} {enc : TypeId × Value → H} {W : World} {base : Nat} {spare : Nat → Bool} {held : Bool}
theorem cellsA2 : Try.prog.cellsOf 2 = 1 := by kernel_rfl
theorem cellsA3 : Try.prog.cellsOf 3 = 1 := by kernel_rfl
theorem cellsA9 : Try.prog.cellsOf 9 = 1 := by kernel_rfl
theorem cellsWd : Try.prog.cellsOf 55 = 2 := by kernel_rfl
theorem cellsAc : Try.prog.cellsOf 57 = 3 := by kernel_rfl
theorem cellsPn : Try.prog.cellsOf 59 = 6 := by kernel_rfl
theorem cellsLP : Try.prog.cellsOf 47 = 1 := by kernel_rfl
theorem cellsGr : Try.prog.cellsOf 49 = 3 := by kernel_rfl
theorem openWd {n : Nat} {c0 c1 : Value} {y : DataW H × List MemPlace} (h : DataW.trod enc Try.prog W base spare held n 55 [c0, c1] = some y) :
    ∃ a v, c0 = .int .i64 a ∧ c1 = .int .i64 v ∧ i64B a ∧ i64B v := by
  obtain ⟨xs, m, _, _, _, hlen, hg⟩ := DataW.trod_struct Try.underlying55 h
  match xs, hlen with
  | [y1, y2], _ =>
    obtain ⟨a, e1, _, b1⟩ := DataW.trod_int Try.underlying2 (x := y1) (by simpa [cellsA2] using hg 0 _ rfl)
    obtain ⟨v, e2, _, b2⟩ := DataW.trod_int Try.underlying2 (x := y2) (by simpa [cellsA2] using hg 1 _ rfl)
    simp at e1 e2
    exact ⟨a, v, e1, e2, i64_bd b1, i64_bd b2⟩
theorem openAc {n : Nat} {c0 c1 c2 : Value} {y : DataW H × List MemPlace} (h : DataW.trod enc Try.prog W base spare held n 57 [c0, c1, c2] = some y) :
    ∃ a b c, c0 = .int .i64 a ∧ c1 = .int .i64 b ∧ c2 = .int .i64 c ∧ i64B a ∧ i64B b ∧ i64B c := by
  obtain ⟨xs, m, _, _, _, hlen, hg⟩ := DataW.trod_struct Try.underlying57 h
  match xs, hlen with
  | [y1, y2, y3], _ =>
    obtain ⟨a, e1, _, b1⟩ := DataW.trod_int Try.underlying2 (x := y1) (by simpa [cellsA2] using hg 0 _ rfl)
    obtain ⟨b, e2, _, b2⟩ := DataW.trod_int Try.underlying2 (x := y2) (by simpa [cellsA2] using hg 1 _ rfl)
    obtain ⟨c, e3, _, b3⟩ := DataW.trod_int Try.underlying2 (x := y3) (by simpa [cellsA2] using hg 2 _ rfl)
    simp at e1 e2 e3
    exact ⟨a, b, c, e1, e2, e3, i64_bd b1, i64_bd b2, i64_bd b3⟩
theorem openPn {n : Nat} {cs : List Value} {z : DataW H × List MemPlace} (h : DataW.trod enc Try.prog W base spare held n 59 cs = some z) (hl : cs.length = 6) : ∃ x : Pn, cs = x.cs ∧ x.Wf := by
  match cs, hl with
  | [c0, c1, c2, c3, c4, c5], _ =>
    obtain ⟨xs, m, _, _, _, hlen, hg⟩ := DataW.trod_struct Try.underlying59 h
    match xs, hlen with
    | [y0, y1, y2], _ =>
      obtain ⟨lo, hi, e0, e1, b0, b1⟩ := openWd (enc := enc) (W := W) (base := base) (spare := spare) (held := held) (n := m) (c0 := c0) (c1 := c1) (y := y0) (by simpa [cellsWd] using hg 0 _ rfl)
      obtain ⟨k, e2, _, b2⟩ := DataW.trod_string Try.underlying9 (x := y1) (by simpa [cellsA9] using hg 1 _ rfl)
      obtain ⟨p, a, b, e3, e4, e5, b3, b4, b5⟩ := openAc (enc := enc) (W := W) (base := base) (spare := spare) (held := held) (n := m) (c0 := c3) (c1 := c4) (c2 := c5) (y := y2) (by simpa [cellsAc] using hg 2 _ rfl)
      simp at e2
      exact ⟨⟨lo, hi, k, p, a, b⟩, by rw [e0, e1, e2, e3, e4, e5]; rfl, b0, b1, b2, b3, b4, b5⟩
/-- A group that came in. -/
structure GIn (W : World) (v : Value) (no m : Int) (l : List Pn) : Prop where
  h : ∃ vl, v = .agg #[.int .i64 no, .int .i64 m, vl] ∧ Row Pn.cs 6 W vl l
  wf : ∀ p ∈ l, p.Wf
  len : l.length ≤ maxLen
set_option maxRecDepth 100000 in
theorem arg_group {r : Reach} {b : Nat} {v : Value} {d : DataW H} {p : List MemPlace} (hok : Value.okWide Try.prog W r b 49 v) (h : DataW.Trod enc Try.prog W base spare held 49 v d p) :
    ∃ x, v = x ∧ ∃ no m l, GIn W x no m l := by
  obtain ⟨cs, rfl, hsz⟩ := okWide_struct Try.underlying49 hok
  obtain ⟨l⟩ := cs
  match l, hsz.trans cellsGr with
  | [c0, c1, c2], _ =>
    obtain ⟨fuel, hf⟩ := h
    obtain ⟨xs, m, _, _, _, hlen, hg⟩ := DataW.trod_struct Try.underlying49 hf
    match xs, hlen with
    | [y0, y1, y2], _ =>
      obtain ⟨no, e0, _, _⟩ := DataW.trod_int Try.underlying3 (x := y0) (by simpa [Value.cells, cellsA3] using hg 0 _ rfl)
      obtain ⟨mk, e1, _, _⟩ := DataW.trod_int Try.underlying2 (x := y1) (by simpa [Value.cells, cellsA2] using hg 1 _ rfl)
      obtain ⟨lp, h1, h2, h3⟩ := open_rows (enc := enc) (W := W) (base := base) (spare := spare) (held := held) (fuel := m) (c := c2) (y := y2) Try.underlying47 cellsPn (by decide) Pn.cs_len openPn (by simpa [Value.cells, cellsLP] using hg 2 _ rfl)
      simp at e0 e1
      subst e0 e1
      exact ⟨_, rfl, no, mk, lp, ⟨c2, rfl, h1⟩, h2, h3⟩
end
end Go.Proofs.Ytlboehpgpbchhaa
