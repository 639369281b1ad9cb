/-
  ALIGNERS: what an aligner that came in is.
-/
import Derived.Test.YtenpgkkefielfaaItemW6
import Derived.Test.YtenpgkkefielfaaItemArgs
import Derived.Test.YtenpgkkefielfaaRowsArg
namespace Go.Proofs.Ytenpgkkefielfaa
open Go.ChangeShapes Go.WideShapes Go.ChangeAt Go.RowKit Go.Deep

def It.cs (i : It) : List Value := [.int .i64 i.kind, .string i.ek, .int .i64 i.ea, .int .i64 i.ev, .int .i64 i.ma, .int .i64 i.n, .int .i64 i.lo, .int .i64 i.hi, .string i.rk, .int .i64 i.rn, .int .i64 i.rv]
theorem It.cs_len (i : It) : i.cs.length = 11 := rfl
theorem itV_cs (i : It) : itV i = .agg i.cs.toArray := rfl
instance : Inhabited It := ⟨itZ⟩
/-- What an input holds: its row as it stands in memory, and the items that this reads as. -/
structure Hl where
  row : Value
  l : List It
def Hl.cs (h : Hl) : List Value := [h.row]
theorem Hl.cs_len (h : Hl) : h.cs.length = 1 := rfl
instance : Inhabited Hl := ⟨⟨.slice none 0 0, []⟩⟩
def bCs (b : Bool) : List Value := [.bool b]
theorem bCs_len (b : Bool) : (bCs b).length = 1 := rfl
def RowI (W : World) (v : Value) (l : List It) : Prop := Row It.cs 11 W v l ∧ (∀ x ∈ l, x.Wf) ∧ l.length ≤ maxLen
def Hl.At (W : World) (h : Hl) : Prop := RowI W h.row h.l
structure Aln where
  n : Int
  got : List Bool
  held : List Hl
def AlAt (W : World) (v : Value) (a : Aln) : Prop :=
  ∃ vg vh, v = .agg #[.int .i64 a.n, vg, vh] ∧ wfL a.n ∧ (Row bCs 1 W vg a.got ∧ a.got.length ≤ maxLen) ∧ (Row Hl.cs 1 W vh a.held ∧ (∀ x ∈ a.held, x.At W) ∧ a.held.length ≤ maxLen)
theorem RowI.below {W W' : World} {v : Value} {l : List It} (h : RowI W v l) (hb : Below W.heap.size W W') : RowI W' v l := ⟨h.1.below hb, h.2⟩
theorem AlAt.below {W W' : World} {v : Value} {a : Aln} (h : AlAt W v a) (hb : Below W.heap.size W W') : AlAt W' v a := by
  obtain ⟨vg, vh, e, h1, ⟨h2, h3⟩, h4, h5, h6⟩ := h
  exact ⟨vg, vh, e, h1, ⟨h2.below hb, h3⟩, h4.below hb, fun x hx => (h5 x hx).below hb, h6⟩
section
variable {H : Type} {enc : TypeId × Value → H} {W : World} {base : Nat} {spare : Nat → Bool} {held : Bool}
theorem cells4 : Try.prog.cellsOf 4 = 1 := by kernel_rfl
theorem cellsLI : Try.prog.cellsOf 32 = 1 := by kernel_rfl
theorem cellsLB : Try.prog.cellsOf 24 = 1 := by kernel_rfl
theorem cellsLL : Try.prog.cellsOf 22 = 1 := by kernel_rfl
theorem cellsAl : Try.prog.cellsOf 26 = 3 := by kernel_rfl
set_option maxRecDepth 100000 in
theorem openI {n : Nat} {cs : List Value} {z : DataW H × List MemPlace} (h : DataW.trod enc Try.prog W base spare held n 43 cs = some z) (hl : cs.length = 11) : ∃ x : It, cs = x.cs ∧ x.Wf := by
  match cs, hl with
  | [c0, c1, c2, c3, c4, c5, c6, c7, c8, c9, c10], _ =>
    obtain ⟨xs, m, _, _, _, hlen, hg⟩ := DataW.trod_struct Try.underlying43 h
    match xs, hlen with
    | [y0, y1, y2, y3, y4], _ =>
      obtain ⟨kind, e0, _, b0⟩ := DataW.trod_int Try.underlying3 (x := y0) (by simpa [Value.cells, cells3] using hg 0 _ rfl)
      obtain ⟨ek, ea, ev, rfl, rfl, rfl, b1, b2, b3⟩ := open51 (enc := enc) (W := W) (base := base) (spare := spare) (held := held) (n := m) (c0 := c1) (c1 := c2) (c2 := c3) (y := y1) (by simpa [Value.cells, cells51] using hg 1 _ rfl)
      obtain ⟨ma, e4, _, b4⟩ := DataW.trod_int Try.underlying2 (x := y2) (by simpa [Value.cells, cells2] using hg 2 _ rfl)
      obtain ⟨n, e5, _, b5⟩ := DataW.trod_int Try.underlying3 (x := y3) (by simpa [Value.cells, cells3] using hg 3 _ rfl)
      obtain ⟨lo, hi, rk, rn, rv, rfl, rfl, rfl, rfl, rfl, b6, b7, b8, b9, b10⟩ := open55 (enc := enc) (W := W) (base := base) (spare := spare) (held := held) (n := m) (c0 := c6) (c1 := c7) (c2 := c8) (c3 := c9) (c4 := c10) (y := y4) (by simpa [Value.cells, cells55] using hg 4 _ rfl)
      simp at e0 e4 e5
      subst e0 e4 e5
      exact ⟨⟨kind, ek, ea, ev, ma, n, lo, hi, rk, rn, rv⟩, rfl, i64_bd b0, b1, b2, b3, i64_bd b4, i64_bd b5, b6, b7, b8, b9, b10⟩
theorem openB {n : Nat} {cs : List Value} {z : DataW H × List MemPlace} (h : DataW.trod enc Try.prog W base spare held n 4 cs = some z) (hl : cs.length = 1) : ∃ x : Bool, cs = bCs x ∧ True := by
  match cs, hl with
  | [c0], _ =>
    obtain ⟨v, e2, _⟩ := DataW.trod_bool Try.underlying4 (x := z) h
    exact ⟨v, by simpa [bCs] using e2, trivial⟩
theorem open_items {n : Nat} {c : Value} {z : DataW H × List MemPlace} (h : DataW.trod enc Try.prog W base spare held n 32 [c] = some z) : ∃ l, RowI W c l := by
  obtain ⟨l, h1, h2, h3⟩ := open_rows (c := c) (y := z) Try.underlying32 cells57 (by decide) It.cs_len openI h
  exact ⟨l, h1, h2, h3⟩
theorem openH {n : Nat} {cs : List Value} {z : DataW H × List MemPlace} (h : DataW.trod enc Try.prog W base spare held n 32 cs = some z) (hl : cs.length = 1) : ∃ x : Hl, cs = x.cs ∧ x.At W := by
  match cs, hl with
  | [c0], _ =>
    obtain ⟨l, hr⟩ := open_items h
    exact ⟨⟨c0, l⟩, rfl, hr⟩
set_option maxRecDepth 100000 in
theorem arg_aligner {r : Reach} {b : Nat} {v : Value} {d : DataW H} {p : List MemPlace} (hok : Value.okWide Try.prog W r b 26 v) (h : DataW.Trod enc Try.prog W base spare held 26 v d p) :
    ∃ x, v = x ∧ ∃ a, AlAt W x a := by
  obtain ⟨cs, rfl, hsz⟩ := okWide_struct Try.underlying26 hok
  obtain ⟨l⟩ := cs
  match l, hsz.trans cellsAl with
  | [c0, c1, c2], _ =>
    obtain ⟨fuel, hf⟩ := h
    obtain ⟨xs, m, _, _, _, hlen, hg⟩ := DataW.trod_struct Try.underlying26 hf
    match xs, hlen with
    | [y0, y1, y2], _ =>
      obtain ⟨o, e2, _, b2⟩ := DataW.trod_int Try.underlying3 (x := y0) (by simpa [Value.cells, cells3] using hg 0 _ rfl)
      obtain ⟨got, r1, -, l1⟩ := open_rows (c := c1) (y := y1) Try.underlying24 cells4 (by decide) bCs_len openB (by simpa [Value.cells, cellsLB] using hg 1 _ rfl)
      obtain ⟨hd, r2, w2, l2⟩ := open_rows (c := c2) (y := y2) Try.underlying22 cellsLI (by decide) Hl.cs_len openH (by simpa [Value.cells, cellsLL] using hg 2 _ rfl)
      simp at e2
      subst e2
      exact ⟨_, rfl, ⟨o, got, hd⟩, c1, c2, rfl, i64_bd b2, ⟨r1, l1⟩, r2, w2, l2⟩
end
end Go.Proofs.Ytenpgkkefielfaa
