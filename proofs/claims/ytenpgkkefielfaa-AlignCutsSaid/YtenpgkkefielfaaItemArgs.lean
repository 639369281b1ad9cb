/-
  What an item and an event that came in are.
-/
import Derived.Test.YtenpgkkefielfaaItemPlain
import Derived.Test.YtenpgkkefielfaaRowsArg
import Derived.WalkKit
import Derived.ProofKit
import Derived.OpenShut
import Derived.ShutString
import Derived.ChangeOld
import Derived.Below
namespace Go.Proofs.Ytenpgkkefielfaa
open Go.ChangeShapes Go.WideShapes Go.ChangeAt Go.RowKit

/-- What is known of the fields of an item that came in. -/
def It.Wf (i : It) : Prop := wfL i.kind ∧ i.ek.size ≤ maxLen ∧ wfL i.ea ∧ wfL i.ev ∧ wfL i.ma ∧ wfL i.n ∧ wfL i.lo ∧ wfL i.hi ∧ i.rk.size ≤ maxLen ∧ wfL i.rn ∧ wfL i.rv
section
variable {H : Type} {enc : TypeId × Value → H} {W : World} {base : Nat} {spare : Nat → Bool} {held : Bool}
theorem cells3 : Try.prog.cellsOf 3 = 1 := by kernel_rfl
theorem cells2 : Try.prog.cellsOf 2 = 1 := by kernel_rfl
theorem cells9 : Try.prog.cellsOf 9 = 1 := by kernel_rfl
theorem cells51 : Try.prog.cellsOf 37 = 3 := by kernel_rfl
theorem cells53 : Try.prog.cellsOf 39 = 2 := by kernel_rfl
theorem cells55 : Try.prog.cellsOf 41 = 5 := by kernel_rfl
theorem cells57 : Try.prog.cellsOf 43 = 11 := by kernel_rfl
theorem open51 {n : Nat} {c0 c1 c2 : Value} {y : DataW H × List MemPlace} (h : DataW.trod enc Try.prog W base spare held n 37 [c0, c1, c2] = some y) :
    ∃ k a v, c0 = .string k ∧ c1 = .int .i64 a ∧ c2 = .int .i64 v ∧ k.size ≤ maxLen ∧ wfL a ∧ wfL v := by
  obtain ⟨xs, m, _, _, _, hlen, hg⟩ := DataW.trod_struct Try.underlying37 h
  match xs, hlen with
  | [y0, y1, y2], _ =>
    obtain ⟨k, e0, _, b0⟩ := DataW.trod_string Try.underlying9 (x := y0) (by simpa [cells9] using hg 0 _ rfl)
    obtain ⟨a, e1, _, b1⟩ := DataW.trod_int Try.underlying2 (x := y1) (by simpa [cells2] using hg 1 _ rfl)
    obtain ⟨v, e2, _, b2⟩ := DataW.trod_int Try.underlying2 (x := y2) (by simpa [cells2] using hg 2 _ rfl)
    simp at e0 e1 e2
    exact ⟨k, a, v, e0, e1, e2, b0, i64_bd b1, i64_bd b2⟩
theorem open53 {n : Nat} {c0 c1 : Value} {y : DataW H × List MemPlace} (h : DataW.trod enc Try.prog W base spare held n 39 [c0, c1] = some y) :
    ∃ a v, c0 = .int .i64 a ∧ c1 = .int .i64 v ∧ wfL a ∧ wfL v := by
  obtain ⟨xs, m, _, _, _, hlen, hg⟩ := DataW.trod_struct Try.underlying39 h
  match xs, hlen with
  | [y1, y2], _ =>
    obtain ⟨a, e1, _, b1⟩ := DataW.trod_int Try.underlying2 (x := y1) (by simpa [cells2] using hg 0 _ rfl)
    obtain ⟨v, e2, _, b2⟩ := DataW.trod_int Try.underlying2 (x := y2) (by simpa [cells2] using hg 1 _ rfl)
    simp at e1 e2
    exact ⟨a, v, e1, e2, i64_bd b1, i64_bd b2⟩
theorem open55 {n : Nat} {c0 c1 c2 c3 c4 : Value} {y : DataW H × List MemPlace} (h : DataW.trod enc Try.prog W base spare held n 41 [c0, c1, c2, c3, c4] = some y) :
    ∃ lo hi k n v, c0 = .int .i64 lo ∧ c1 = .int .i64 hi ∧ c2 = .string k ∧ c3 = .int .i64 n ∧ c4 = .int .i64 v ∧ wfL lo ∧ wfL hi ∧ k.size ≤ maxLen ∧ wfL n ∧ wfL v := by
  obtain ⟨xs, m, _, _, _, hlen, hg⟩ := DataW.trod_struct Try.underlying41 h
  match xs, hlen with
  | [y0, y1, y2, y3], _ =>
    obtain ⟨lo, hi, e0, e1, b0, b1⟩ := open53 (enc := enc) (W := W) (base := base) (spare := spare) (held := held) (n := m) (c0 := c0) (c1 := c1) (y := y0) (by simpa [cells53] using hg 0 _ rfl)
    obtain ⟨k, e2, _, b2⟩ := DataW.trod_string Try.underlying9 (x := y1) (by simpa [cells9] using hg 1 _ rfl)
    obtain ⟨n, e3, _, b3⟩ := DataW.trod_int Try.underlying2 (x := y2) (by simpa [cells2] using hg 2 _ rfl)
    obtain ⟨v, e4, _, b4⟩ := DataW.trod_int Try.underlying2 (x := y3) (by simpa [cells2] using hg 3 _ rfl)
    simp at e2 e3 e4
    exact ⟨lo, hi, k, n, v, e0, e1, e2, e3, e4, b0, b1, b2, i64_bd b3, i64_bd b4⟩
set_option maxRecDepth 100000 in
set_option maxRecDepth 100000 in
theorem arg_ev {r : Reach} {b : Nat} {v : Value} {d : DataW H} {p : List MemPlace} (hok : Value.okWide Try.prog W r b 37 v) (h : DataW.Trod enc Try.prog W base spare held 37 v d p) :
    ∃ x, v = x ∧ ∃ k a u, x = .agg #[.string k, .int .i64 a, .int .i64 u] ∧ k.size ≤ maxLen ∧ wfL a ∧ wfL u := by
  obtain ⟨cs, rfl, hsz⟩ := okWide_struct Try.underlying37 hok
  obtain ⟨l⟩ := cs
  match l, hsz.trans cells51 with
  | [c0, c1, c2], _ =>
    obtain ⟨fuel, hf⟩ := h
    obtain ⟨k, a, u, rfl, rfl, rfl, b0, b1, b2⟩ := open51 hf
    exact ⟨_, rfl, k, a, u, rfl, b0, b1, b2⟩
set_option maxRecDepth 100000 in
set_option maxRecDepth 100000 in
theorem arg_item {r : Reach} {b : Nat} {v : Value} {d : DataW H} {p : List MemPlace} (hok : Value.okWide Try.prog W r b 43 v) (h : DataW.Trod enc Try.prog W base spare held 43 v d p) :
    ∃ x, v = x ∧ ∃ i : It, x = itV i ∧ i.Wf := by
  obtain ⟨cs, rfl, hsz⟩ := okWide_struct Try.underlying43 hok
  obtain ⟨l⟩ := cs
  match l, hsz.trans cells57 with
  | [c0, c1, c2, c3, c4, c5, c6, c7, c8, c9, c10], _ =>
    obtain ⟨fuel, hf⟩ := h
    obtain ⟨xs, m, _, _, _, hlen, hg⟩ := DataW.trod_struct Try.underlying43 hf
    match xs, hlen with
    | [y0, y1, y2, y3, y4], _ =>
      obtain ⟨kind, e0, _, b0⟩ := DataW.trod_int Try.underlying3 (x := y0) (by simpa [Value.cells, cells3] using hg 0 _ rfl)
      obtain ⟨ek, ea, ev, rfl, rfl, rfl, b1, b2, b3⟩ := open51 (enc := enc) (W := W) (base := base) (spare := spare) (held := held) (n := m) (c0 := c1) (c1 := c2) (c2 := c3) (y := y1) (by simpa [Value.cells, cells51] using hg 1 _ rfl)
      obtain ⟨ma, e4, _, b4⟩ := DataW.trod_int Try.underlying2 (x := y2) (by simpa [Value.cells, cells2] using hg 2 _ rfl)
      obtain ⟨n, e5, _, b5⟩ := DataW.trod_int Try.underlying3 (x := y3) (by simpa [Value.cells, cells3] using hg 3 _ rfl)
      obtain ⟨lo, hi, rk, rn, rv, rfl, rfl, rfl, rfl, rfl, b6, b7, b8, b9, b10⟩ := open55 (enc := enc) (W := W) (base := base) (spare := spare) (held := held) (n := m) (c0 := c6) (c1 := c7) (c2 := c8) (c3 := c9) (c4 := c10) (y := y4) (by simpa [Value.cells, cells55] using hg 4 _ rfl)
      simp at e0 e4 e5
      subst e0 e4 e5
      exact ⟨_, rfl, ⟨kind, ek, ea, ev, ma, n, lo, hi, rk, rn, rv⟩, rfl, i64_bd b0, b1, b2, b3, i64_bd b4, i64_bd b5, b6, b7, b8, b9, b10⟩
end
end Go.Proofs.Ytenpgkkefielfaa
