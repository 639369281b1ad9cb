/-
  What a slice of numbers that came in is.
-/
import Derived.Test.YtdanfeldbdooeaaChunkArgs
import Derived.Test.YtdanfeldbdooeaaChunkW11
set_option linter.unusedVariables false
set_option linter.unusedSimpArgs false
namespace Go.Proofs.Ytdanfeldbdooeaa
open Go.ChangeShapes Go.WideShapes Go.ChangeAt Go.RowKit Go.Deep

section
variable {H : Type} {enc : TypeId × Value → H} {W : World} {base : Nat} {spare : Nat → Bool} {held : Bool}
theorem openInt {n : Nat} {cs : List Value} {z : DataW H × List MemPlace} (h : DataW.trod enc Try.prog W base spare held n 3 cs = some z) (hl : cs.length = 1) : ∃ x : Int, cs = iCs x ∧ wfL x := by
  match cs, hl with
  | [c0], _ =>
    obtain ⟨v, e2, _, b2⟩ := DataW.trod_int Try.underlying3 (x := z) h
    exact ⟨v, by simpa [iCs] using e2, i64_bd b2⟩
set_option maxRecDepth 100000 in
theorem arg_ints {r : Reach} {b : Nat} {v : Value} {d : DataW H} {p : List MemPlace} (hok : Value.okWide Try.prog W r b 60 v) (h : DataW.Trod enc Try.prog W base spare held 60 v d p) :
    ∃ x, v = x ∧ ∃ l, Row iCs 1 W x l ∧ (∀ a ∈ l, wfL a) ∧ l.length ≤ maxLen := by
  obtain ⟨a, n, c, rfl⟩ := okWide_slice Try.underlying60 hok
  obtain ⟨fuel, hf⟩ := h
  obtain ⟨l, r1, w1, l1⟩ := open_rows (c := .slice a n c) Try.underlying60 ckc3 (by decide) iCs_len openInt (by simpa [Value.cells] using hf)
  exact ⟨_, rfl, l, r1, w1, l1⟩
end
end Go.Proofs.Ytdanfeldbdooeaa
