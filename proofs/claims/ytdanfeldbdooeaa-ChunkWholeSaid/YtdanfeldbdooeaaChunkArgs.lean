/-
  What a chunk, chunks that came and numbers that came in are.
-/
import Derived.Test.YtdanfeldbdooeaaRowsArg
import Derived.Test.YtdanfeldbdooeaaChunkW8
set_option linter.unusedVariables false
set_option linter.unusedSimpArgs false
namespace Go.Proofs.Ytdanfeldbdooeaa
open Go.ChangeShapes Go.WideShapes Go.ChangeAt Go.RowKit Go.Deep

/-- What waits for a group, as it came in. -/
def GatherAt (W : World) (v : Value) (g o : Int) (l : List Ck) : Prop :=
  ∃ vl, v = .agg #[.int .i64 g, .int .i64 o, vl] ∧ Row Ck.cs 4 W vl l ∧ (∀ x ∈ l, x.Ok) ∧ wfL g ∧ wfL o ∧ l.length ≤ maxLen
section
variable {H : Type} {enc : TypeId × Value → H} {W : World} {base : Nat} {spare : Nat → Bool} {held : Bool}
theorem ckc3 : Try.prog.cellsOf 3 = 1 := by kernel_rfl
theorem ckc9 : Try.prog.cellsOf 9 = 1 := by kernel_rfl
theorem ckcC : Try.prog.cellsOf 56 = 4 := by kernel_rfl
theorem ckcLC : Try.prog.cellsOf 50 = 1 := by kernel_rfl
theorem ckcG : Try.prog.cellsOf 52 = 3 := by kernel_rfl
theorem openCk {n : Nat} {cs : List Value} {z : DataW H × List MemPlace} (h : DataW.trod enc Try.prog W base spare held n 56 cs = some z) (hl : cs.length = 4) : ∃ x : Ck, cs = x.cs ∧ x.Ok := by
  match cs, hl with
  | [c0, c1, c2, c3], _ =>
    obtain ⟨xs, m, _, _, _, hlen, hg⟩ := DataW.trod_struct Try.underlying56 h
    match xs, hlen with
    | [y0, y1, y2, y3], _ =>
      obtain ⟨a0, e0, _, b0⟩ := DataW.trod_int Try.underlying3 (x := y0) (by simpa [ckc3] using hg 0 _ rfl)
      obtain ⟨a1, e1, _, b1⟩ := DataW.trod_int Try.underlying3 (x := y1) (by simpa [ckc3] using hg 1 _ rfl)
      obtain ⟨a2, e2, _, b2⟩ := DataW.trod_int Try.underlying3 (x := y2) (by simpa [ckc3] using hg 2 _ rfl)
      obtain ⟨s, e3, _, b3⟩ := DataW.trod_string Try.underlying9 (x := y3) (by simpa [ckc9] using hg 3 _ rfl)
      simp at e0 e1 e2 e3
      exact ⟨⟨a0, a1, a2, s⟩, by rw [e0, e1, e2, e3]; rfl, str_bd b3, i64_bd b2⟩
set_option maxRecDepth 100000 in
theorem arg_chunk {r : Reach} {b : Nat} {v : Value} {d : DataW H} {p : List MemPlace} (hok : Value.okWide Try.prog W r b 56 v) (h : DataW.Trod enc Try.prog W base spare held 56 v d p) :
    ∃ x, v = x ∧ ∃ c : Ck, x = .agg #[.int .i64 c.g, .int .i64 c.no, .int .i64 c.of_, .string c.b] ∧ c.Ok := by
  obtain ⟨cs, rfl, hsz⟩ := okWide_struct Try.underlying56 hok
  obtain ⟨l⟩ := cs
  obtain ⟨fuel, hf⟩ := h
  obtain ⟨x, e, hx⟩ := openCk (cs := l) (by simpa [Value.cells] using hf) (hsz.trans ckcC)
  exact ⟨_, rfl, x, by rw [e]; rfl, hx⟩
set_option maxRecDepth 100000 in
theorem arg_gather {r : Reach} {b : Nat} {v : Value} {d : DataW H} {p : List MemPlace} (hok : Value.okWide Try.prog W r b 52 v) (h : DataW.Trod enc Try.prog W base spare held 52 v d p) :
    ∃ x, v = x ∧ ∃ g o l, GatherAt W x g o l := by
  obtain ⟨cs, rfl, hsz⟩ := okWide_struct Try.underlying52 hok
  obtain ⟨l⟩ := cs
  match l, hsz.trans ckcG with
  | [c0, c1, c2], _ =>
    obtain ⟨fuel, hf⟩ := h
    obtain ⟨xs, m, _, _, _, hlen, hg⟩ := DataW.trod_struct Try.underlying52 hf
    match xs, hlen with
    | [y0, y1, y2], _ =>
      obtain ⟨g, e0, _, b0⟩ := DataW.trod_int Try.underlying3 (x := y0) (by simpa [Value.cells, ckc3] using hg 0 _ rfl)
      obtain ⟨o, e1, _, b1⟩ := DataW.trod_int Try.underlying3 (x := y1) (by simpa [Value.cells, ckc3] using hg 1 _ rfl)
      obtain ⟨lc, r1, w1, l1⟩ := open_rows (c := c2) (y := y2) Try.underlying50 ckcC (by decide) Ck.cs_len openCk (by simpa [Value.cells, ckcLC] using hg 2 _ rfl)
      simp at e0 e1
      subst e0 e1
      exact ⟨_, rfl, g, o, lc, c2, rfl, r1, w1, i64_bd b0, i64_bd b1, l1⟩
end
end Go.Proofs.Ytdanfeldbdooeaa
