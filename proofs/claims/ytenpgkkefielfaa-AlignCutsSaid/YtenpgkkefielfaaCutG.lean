/-
  What rows of items, and a row of turns, that came in are.
-/
import Derived.Test.YtenpgkkefielfaaCutA
set_option linter.unusedVariables false
set_option linter.unusedSimpArgs false
namespace Go.Proofs.Ytenpgkkefielfaa
open Go.ChangeShapes Go.WideShapes Go.ChangeAt Go.RowKit Go.Deep

def iCs (i : Int) : List Value := [.int .i64 i]
theorem iCs_len (i : Int) : (iCs i).length = 1 := rfl
section
variable {H : Type} {enc : TypeId × Value → H} {W : World} {base : Nat} {spare : Nat → Bool} {held : Bool}
theorem openInt {n : Nat} {cs : List Value} {z : DataW H × List MemPlace} (h : DataW.trod enc Try.prog W base spare held n 3 cs = some z) (hl : cs.length = 1) : ∃ x : Int, cs = iCs x ∧ wfL x := by
  match cs, hl with
  | [c0], _ =>
    obtain ⟨v, e2, _, b2⟩ := DataW.trod_int Try.underlying3 (x := z) h
    exact ⟨v, by simpa [iCs] using e2, i64_bd b2⟩
theorem bytes3 : Try.prog.bytesOf 3 = 8 := by kernel_rfl
set_option maxRecDepth 100000 in
theorem arg_turns {r : Reach} {b : Nat} {v : Value} {d : DataW H} {p : List MemPlace} (hok : Value.okWide Try.prog W r b 23 v) (h : DataW.Trod enc Try.prog W base spare held 23 v d p) :
    ∃ x, v = x ∧ ∃ l, Row iCs 1 W x l ∧ (∀ a ∈ l, wfL a) ∧ (l.length = 0 ∨ ∃ el sp, d = .slice el sp ∧ el.length = l.length) := by
  obtain ⟨a, n, c, rfl⟩ := okWide_slice Try.underlying23 hok
  obtain ⟨fuel, hf⟩ := h
  obtain ⟨l, r1, w1, l1⟩ := open_rows (c := .slice a n c) Try.underlying23 cells3 (by decide) iCs_len openInt (by simpa [Value.cells] using hf)
  refine ⟨_, rfl, l, r1, w1, ?_⟩
  have hln : l.length = n := by
    obtain ⟨A, c', e, -⟩ := r1
    injection e with _ e2 _
    exact e2.symm
  rcases open_slice Try.underlying23 hf with ⟨hc, -⟩ | ⟨a', len, cap, m, n', D, Pl, hc, -, -, -, -, hx, -⟩
  · left
    simp [Value.cells] at hc
    omega
  · right
    simp [Value.cells] at hc
    injection hx with hx1 hx2
    exact ⟨_, _, hx1, by rw [List.length_map, List.length_range]; omega⟩
set_option maxRecDepth 100000 in
theorem arg_lists {r : Reach} {b : Nat} {v : Value} {d : DataW H} {p : List MemPlace} (hok : Value.okWide Try.prog W r b 22 v) (h : DataW.Trod enc Try.prog W base spare held 22 v d p) :
    ∃ x, v = x ∧ ∃ l, Row Hl.cs 1 W x l ∧ (∀ a ∈ l, a.At W) ∧ l.length ≤ maxLen := by
  obtain ⟨a, n, c, rfl⟩ := okWide_slice Try.underlying22 hok
  obtain ⟨fuel, hf⟩ := h
  obtain ⟨l, r1, w1, l1⟩ := open_rows (c := .slice a n c) Try.underlying22 cellsLI (by decide) Hl.cs_len openH (by simpa [Value.cells] using hf)
  exact ⟨_, rfl, l, r1, w1, l1⟩
end
end Go.Proofs.Ytenpgkkefielfaa
