/-
  What acts on a sink that came in are.
-/
import Derived.Test.YtenpgkkefielfaaSinkW32
set_option linter.unusedVariables false
set_option linter.unusedSimpArgs false
namespace Go.Proofs.Ytenpgkkefielfaa
open Go.ChangeShapes Go.WideShapes Go.ChangeAt Go.RowKit Go.Deep

structure Ac where
  w : Int
  n : Int
  r : Res
def Ac.cs (a : Ac) : List Value := [.int .i64 a.w, .int .i64 a.n, .int .i64 a.r.lo, .int .i64 a.r.hi, .string a.r.k, .int .i64 a.r.n, .int .i64 a.r.v]
theorem Ac.cs_len (a : Ac) : a.cs.length = 7 := rfl
def Ac.Wf (a : Ac) : Prop := wfL a.w ∧ wfL a.n ∧ a.r.Wf
section
variable {H : Type} {enc : TypeId × Value → H} {W : World} {base : Nat} {spare : Nat → Bool} {held : Bool}
theorem cellsA : Try.prog.cellsOf 80 = 7 := by kernel_rfl
theorem openA {n : Nat} {cs : List Value} {z : DataW H × List MemPlace} (h : DataW.trod enc Try.prog W base spare held n 80 cs = some z) (hl : cs.length = 7) : ∃ x : Ac, cs = x.cs ∧ x.Wf := by
  match cs, hl with
  | [c0, c1, c2, c3, c4, c5, c6], _ =>
    obtain ⟨xs, m, _, _, _, hlen, hg⟩ := DataW.trod_struct Try.underlying80 h
    match xs, hlen with
    | [y0, y1, y2], _ =>
      obtain ⟨a, e0, _, b0⟩ := DataW.trod_int Try.underlying3 (x := y0) (by simpa [cells3] using hg 0 _ rfl)
      obtain ⟨b, e1, _, b1⟩ := DataW.trod_int Try.underlying3 (x := y1) (by simpa [cells3] using hg 1 _ rfl)
      obtain ⟨r, e2, hr⟩ := openR (cs := [c2, c3, c4, c5, c6]) (enc := enc) (W := W) (base := base) (spare := spare) (held := held) (n := m) (z := y2) (by simpa [cells3, cells55] using hg 2 _ rfl) rfl
      simp at e0 e1
      unfold Res.cs at e2
      simp at e2
      obtain ⟨rfl, rfl, rfl, rfl, rfl⟩ := e2
      exact ⟨⟨a, b, r⟩, by rw [e0, e1]; rfl, i64_bd b0, i64_bd b1, hr⟩
set_option maxRecDepth 100000 in
theorem arg_acts {r : Reach} {b : Nat} {v : Value} {d : DataW H} {p : List MemPlace} (hok : Value.okWide Try.prog W r b 77 v) (h : DataW.Trod enc Try.prog W base spare held 77 v d p) :
    ∃ x, v = x ∧ ∃ l : List Ac, Row Ac.cs 7 W x l ∧ (∀ a ∈ l, a.Wf) ∧ l.length ≤ maxLen := by
  obtain ⟨a, n, c, rfl⟩ := okWide_slice Try.underlying77 hok
  obtain ⟨fuel, hf⟩ := h
  obtain ⟨l, h1, h2, h3⟩ := open_rows (c := .slice a n c) Try.underlying77 cellsA (by decide) Ac.cs_len openA (by simpa [Value.cells] using hf)
  exact ⟨_, rfl, l, h1, h2, h3⟩
end
end Go.Proofs.Ytenpgkkefielfaa
