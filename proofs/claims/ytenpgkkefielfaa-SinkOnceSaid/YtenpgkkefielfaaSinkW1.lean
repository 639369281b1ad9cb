/-
  SINKS: what a sink that came in is; results, stages.
-/
import Derived.Test.YtenpgkkefielfaaItemW6
import Derived.Test.YtenpgkkefielfaaItemArgs
import Derived.Test.YtenpgkkefielfaaRowsArg
set_option linter.unusedVariables false
set_option linter.unusedSimpArgs false
namespace Go.Proofs.Ytenpgkkefielfaa
open Go.ChangeShapes Go.WideShapes Go.ChangeAt Go.RowKit Go.Deep

structure Res where
  lo : Int
  hi : Int
  k : ByteArray
  n : Int
  v : Int
/-- A stage: its number, its row as it stands in memory, and the results that this reads as. -/
structure Stg where
  n : Int
  row : Value
  l : List Res
def Res.cs (r : Res) : List Value := [.int .i64 r.lo, .int .i64 r.hi, .string r.k, .int .i64 r.n, .int .i64 r.v]
def Res.val (r : Res) : Value := .agg #[.int .i64 r.lo, .int .i64 r.hi, .string r.k, .int .i64 r.n, .int .i64 r.v]
def Stg.cs (s : Stg) : List Value := [.int .i64 s.n, s.row]
theorem Res.cs_len (r : Res) : r.cs.length = 5 := rfl
theorem Stg.cs_len (s : Stg) : s.cs.length = 2 := rfl
instance : Inhabited Res := ⟨⟨0, 0, ⟨#[]⟩, 0, 0⟩⟩
instance : Inhabited Stg := ⟨⟨0, .slice none 0 0, []⟩⟩
def Res.Wf (r : Res) : Prop := wfL r.lo ∧ wfL r.hi ∧ r.k.size ≤ maxLen ∧ wfL r.n ∧ wfL r.v
/-- A row of results: read, bounded. -/
def RowR (W : World) (v : Value) (l : List Res) : Prop := Row Res.cs 5 W v l ∧ (∀ x ∈ l, x.Wf) ∧ l.length ≤ maxLen
def Stg.At (W : World) (s : Stg) : Prop := wfL s.n ∧ RowR W s.row s.l
def SinkAt (W : World) (v : Value) (op : List Res) (st : List Stg) (last : Int) (out : List Res) : Prop :=
  ∃ vo vs vu, v = .agg #[vo, vs, .int .i64 last, vu] ∧ RowR W vo op ∧ (Row Stg.cs 2 W vs st ∧ (∀ x ∈ st, x.At W) ∧ st.length ≤ maxLen) ∧ wfL last ∧ RowR W vu out
theorem RowR.below {W W' : World} {v : Value} {l : List Res} (h : RowR W v l) (hb : Below W.heap.size W W') : RowR W' v l := ⟨h.1.below hb, h.2⟩
theorem Stg.At.below {W W' : World} {s : Stg} (h : s.At W) (hb : Below W.heap.size W W') : s.At W' := ⟨h.1, h.2.below hb⟩
theorem SinkAt.below {W W' : World} {v : Value} {op out : List Res} {st : List Stg} {last : Int} (h : SinkAt W v op st last out) (hb : Below W.heap.size W W') : SinkAt W' v op st last out := by
  obtain ⟨vo, vs, vu, e, h1, ⟨h2, h3, h4⟩, h5, h6⟩ := h
  exact ⟨vo, vs, vu, e, h1.below hb, ⟨h2.below hb, fun x hx => (h3 x hx).below hb, h4⟩, h5, h6.below hb⟩
section
variable {H : Type} {enc : TypeId × Value → H} {W : World} {base : Nat} {spare : Nat → Bool} {held : Bool}
theorem cellsS : Try.prog.cellsOf 85 = 2 := by kernel_rfl
theorem cellsLR : Try.prog.cellsOf 63 = 1 := by kernel_rfl
theorem cellsLS : Try.prog.cellsOf 64 = 1 := by kernel_rfl
theorem cellsK : Try.prog.cellsOf 66 = 4 := by kernel_rfl
theorem openR {n : Nat} {cs : List Value} {z : DataW H × List MemPlace} (h : DataW.trod enc Try.prog W base spare held n 41 cs = some z) (hl : cs.length = 5) : ∃ x : Res, cs = x.cs ∧ x.Wf := by
  match cs, hl with
  | [c0, c1, c2, c3, c4], _ =>
    obtain ⟨lo, hi, k, n, v, rfl, rfl, rfl, rfl, rfl, b0, b1, b2, b3, b4⟩ := open55 h
    exact ⟨⟨lo, hi, k, n, v⟩, rfl, b0, b1, b2, b3, b4⟩
theorem open_results {n : Nat} {c : Value} {z : DataW H × List MemPlace} (h : DataW.trod enc Try.prog W base spare held n 63 [c] = some z) : ∃ l, RowR W c l := by
  obtain ⟨l, h1, h2, h3⟩ := open_rows (c := c) (y := z) Try.underlying63 cells55 (by decide) Res.cs_len openR h
  exact ⟨l, h1, h2, h3⟩
theorem openS {n : Nat} {cs : List Value} {z : DataW H × List MemPlace} (h : DataW.trod enc Try.prog W base spare held n 85 cs = some z) (hl : cs.length = 2) : ∃ x : Stg, cs = x.cs ∧ x.At W := by
  match cs, hl with
  | [c0, c1], _ =>
    obtain ⟨xs, m, _, _, _, hlen, hg⟩ := DataW.trod_struct Try.underlying85 h
    match xs, hlen with
    | [y0, y1], _ =>
      obtain ⟨a, e1, _, b1⟩ := DataW.trod_int Try.underlying3 (x := y0) (by simpa [cells3] using hg 0 _ rfl)
      obtain ⟨l, hr⟩ := open_results (enc := enc) (W := W) (base := base) (spare := spare) (held := held) (n := m) (c := c1) (z := y1) (by simpa [cellsLR] using hg 1 _ rfl)
      simp at e1
      exact ⟨⟨a, c1, l⟩, by rw [e1]; rfl, i64_bd b1, hr⟩
set_option maxRecDepth 100000 in
theorem arg_sink {r : Reach} {b : Nat} {v : Value} {d : DataW H} {p : List MemPlace} (hok : Value.okWide Try.prog W r b 66 v) (h : DataW.Trod enc Try.prog W base spare held 66 v d p) :
    ∃ x, v = x ∧ ∃ op st last out, SinkAt W x op st last out := by
  obtain ⟨cs, rfl, hsz⟩ := okWide_struct Try.underlying66 hok
  obtain ⟨l⟩ := cs
  match l, hsz.trans cellsK with
  | [c0, c1, c2, c3], _ =>
    obtain ⟨fuel, hf⟩ := h
    obtain ⟨xs, m, _, _, _, hlen, hg⟩ := DataW.trod_struct Try.underlying66 hf
    match xs, hlen with
    | [y0, y1, y2, y3], _ =>
      obtain ⟨op, r1⟩ := open_results (enc := enc) (W := W) (base := base) (spare := spare) (held := held) (n := m) (c := c0) (z := y0) (by simpa [Value.cells, cellsLR] using hg 0 _ rfl)
      obtain ⟨st, r2, w2, l2⟩ := open_rows (c := c1) (y := y1) Try.underlying64 cellsS (by decide) Stg.cs_len openS (by simpa [Value.cells, cellsLS] using hg 1 _ rfl)
      obtain ⟨o, e2, _, b2⟩ := DataW.trod_int Try.underlying3 (x := y2) (by simpa [Value.cells, cells3] using hg 2 _ rfl)
      obtain ⟨out, r3⟩ := open_results (enc := enc) (W := W) (base := base) (spare := spare) (held := held) (n := m) (c := c3) (z := y3) (by simpa [Value.cells, cellsLR] using hg 3 _ rfl)
      simp at e2
      subst e2
      exact ⟨_, rfl, op, st, o, out, c0, c1, c3, rfl, r1, ⟨r2, w2, l2⟩, i64_bd b2, r3⟩
set_option maxRecDepth 100000 in
theorem arg_result {r : Reach} {b : Nat} {v : Value} {d : DataW H} {p : List MemPlace} (hok : Value.okWide Try.prog W r b 41 v) (h : DataW.Trod enc Try.prog W base spare held 41 v d p) :
    ∃ x, v = x ∧ ∃ y : Res, x = y.val ∧ y.Wf := by
  obtain ⟨cs, rfl, hsz⟩ := okWide_struct Try.underlying41 hok
  obtain ⟨l⟩ := cs
  obtain ⟨fuel, hf⟩ := h
  obtain ⟨x, e, hx⟩ := openR hf (hsz.trans cells55)
  exact ⟨_, rfl, x, by rw [show l = x.cs from e]; rfl, hx⟩
end
/-- Where a row of an answer lies: it is the one that was there, or none, or one in new memory. -/
def SrcV (w w' : World) (u v : Value) : Prop := v = u ∨ v = .slice none 0 0 ∨ ∃ g c n, v = .slice (some ⟨g, 0, none⟩) n c ∧ w.heap.size ≤ g ∧ g < w'.heap.size
def LocK (w w' : World) (v v' : Value) : Prop := ∃ vo vs l vu vo' vs' l' vu', v = .agg #[vo, vs, l, vu] ∧ v' = .agg #[vo', vs', l', vu'] ∧ SrcV w w' vo vo' ∧ SrcV w w' vs vs' ∧ SrcV w w' vu vu'
theorem src_own {w w' : World} {base : Nat} {e : TypeId} {sz n : Nat} {u v : Value} {xs : List Value} (h : w'.ownsRow base e sz v n xs) (hb : w.heap.size ≤ base) : SrcV w w' u v := by
  rcases h.2 with ⟨hv, -⟩ | ⟨g, cap, cur, hv, h2, h3, -⟩
  · exact .inr (.inl hv)
  · exact .inr (.inr ⟨g, cap, n, hv, Nat.le_trans hb h2, blk_lt h3⟩)
end Go.Proofs.Ytenpgkkefielfaa
