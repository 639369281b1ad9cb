/-
  Layer 19: a sink beside the ghost rows of SinkOnce.
-/
import Derived.Test.YtenpgkkefielfaaSinkArgA
set_option linter.unusedVariables false
set_option linter.unusedSimpArgs false
namespace Go.Proofs.Ytenpgkkefielfaa
open Go.RowKit

/-- A sink that reads as k, and lies apart from the box of s (block w.heap.size) and from the ghost rows. -/
structure Rd (w W : World) (vo vu vg v : Value) (k : Snk) : Prop where
  at_ : KAt W v k
  in_ : KIn W.heap.size v k
  s : KOff w.heap.size v k
  o : KOffO vo.ownBlock v k
  u : KOffO vu.ownBlock v k
  g : KOffO vg.ownBlock v k
section
variable {w W W' : World} {vo vu vg v : Value} {k : Snk}
theorem koff_nil (v : Value) (k : Snk) : KOffO (Value.slice none 0 0).ownBlock v k := by
  intro g hg
  simp [Value.ownBlock] at hg
theorem Rd.below (h : Rd w W vo vu vg v k) (hb : Below W.heap.size W W') : Rd w W' vo vu vg v k := ⟨h.at_.below hb, h.in_.mono hb.size, h.s, h.o, h.u, h.g⟩
theorem Rd.set (h : Rd w W vo vu vg v k) {b : Nat} (ho : KOff b v k) (hg : W.grownBy W' (some b)) : Rd w W' vo vu vg v k := ⟨h.at_.off ho hg, h.in_.mono hg.size, h.s, h.o, h.u, h.g⟩
theorem Rd.pushO (h : Rd w W vo vu vg v k) {vo' : Value} (hg : W.grownBy W' vo.ownBlock) (hm : Moved W vo vo') : Rd w W' vo' vu vg v k := ⟨h.at_.offO h.o hg, h.in_.mono hg.size, h.s, h.o.moved h.in_ hm, h.u, h.g⟩
theorem Rd.pushU (h : Rd w W vo vu vg v k) {vu' : Value} (hg : W.grownBy W' vu.ownBlock) (hm : Moved W vu vu') : Rd w W' vo vu' vg v k := ⟨h.at_.offO h.u hg, h.in_.mono hg.size, h.s, h.o, h.u.moved h.in_ hm, h.g⟩
theorem Rd.pushG (h : Rd w W vo vu vg v k) {vg' : Value} (hg : W.grownBy W' vg.ownBlock) (hm : Moved W vg vg') : Rd w W' vo vu vg' v k := ⟨h.at_.offO h.g hg, h.in_.mono hg.size, h.s, h.o, h.u, h.g.moved h.in_ hm⟩
theorem Rd.nilO (h : Rd w W vo vu vg v k) : Rd w W (.slice none 0 0) vu vg v k := ⟨h.at_, h.in_, h.s, koff_nil v k, h.u, h.g⟩
theorem Rd.nilG (h : Rd w W vo vu vg v k) : Rd w W vo vu (.slice none 0 0) v k := ⟨h.at_, h.in_, h.s, h.o, h.u, koff_nil v k⟩
theorem Rd.dropG (h : Rd w W vo vu vg v k) {vg' : Value} (hm : Moved W vg vg') : Rd w W vo vu vg' v k := ⟨h.at_, h.in_, h.s, h.o, h.u, h.g.moved h.in_ hm⟩
/-- The answer of a call lies apart, too. -/
theorem Rd.loc (h : Rd w W vo vu vg v k) {B : Nat} {op out : List Res} {gs : List Stg} (hG : Gh W B vo vu vg op out gs) (hw : w.heap.size < W.heap.size) {v' : Value} {k' : Snk} (hk : KAt W' v' k') (hb : Below W.heap.size W W') (hl : LocK W W' v v') (hs : StFrom v k k') : Rd w W' vo vu vg v' k' :=
  ⟨hk, h.in_.loc hb.size hl hs, h.s.loc hw hl hs, fun g e => (h.o g e).loc (hG.o.lt g e).2 hl hs, fun g e => (h.u g e).loc (hG.u.lt g e).2 hl hs, fun g e => (h.g g e).loc (hG.g.lt g e).2 hl hs⟩
end
/-- What holds at the head of each act. -/
def OnRel (w : World) (n : Nat) (vo vu vg i : Value) (wr : World) : Prop :=
  ∃ (j : Nat) (k : Snk) (gs : List Stg) (A1 : Option Addr) (n1 c1 : Nat) (A2 : Option Addr) (n2 c2 : Nat) (l : Int) (A3 : Option Addr) (n3 c3 : Nat), j ≤ n ∧ i = .int .i64 j ∧
    wr.heap[w.heap.size]? = some (.cells #[.slice A1 n1 c1, .slice A2 n2 c2, .int .i64 l, .slice A3 n3 c3] 66 (0, 0)) ∧
    Rd w wr vo vu vg (.agg #[.slice A1 n1 c1, .slice A2 n2 c2, .int .i64 l, .slice A3 n3 c3]) k ∧ k.right = true ∧ Gh wr (w.heap.size + 1) vo vu vg k.op k.out gs ∧ PS gs = PS k.st ∧ Below w.heap.size w wr
/-- What holds at the head of the loop that takes stages over. -/
def InRel (w : World) (W9 : World) (k0 k1 : Snk) (n : Int) (gs0 : List Stg) (v0 v1 : Value) (vo vu vg : Value) (wr : World) : Prop :=
  ∃ (j : Nat), j ≤ gs0.length ∧ (∀ x ∈ gs0.take j, x.n ≤ n) ∧ Gh wr (w.heap.size + 1) vo vu vg k0.op (k0.out ++ (gs0.take j).flatMap Stg.l) (gs0.drop j) ∧ Rd w wr vo vu vg v0 k0 ∧ Rd w wr vo vu vg v1 k1 ∧
    (∀ b, b < W9.heap.size → (∀ g, (vu.ownBlock = some g → g ≠ b ∨ W9.heap.size ≤ g)) → True) ∧ Below w.heap.size w wr
theorem row_take {W : World} {A : Option Addr} {n c m : Nat} {l : List Res} (h : RowR W (.slice A n c) l) (hm : m ≤ l.length) : RowR W (.slice A m c) (l.take m) := by
  obtain ⟨⟨A', c', e, hc, h⟩, h2, h3⟩ := h
  injection e with e1 e2 e3
  subst e1 e2 e3
  refine ⟨⟨A, c, by rw [List.length_take, Nat.min_eq_left hm], by rw [List.length_take]; omega, fun hl => ?_⟩, fun x hx => h2 x (List.mem_of_mem_take hx), by rw [List.length_take]; omega⟩
  rw [List.length_take] at hl
  obtain ⟨b, o, ha, hb, hx⟩ := h (by omega)
  refine ⟨b, o, ha, hb, fun i x j u h1 h4 => ?_⟩
  rw [List.getElem?_take] at h1
  split at h1
  · exact hx i x j u h1 h4
  · cases h1
theorem rd_parts {w W : World} {vo vu vg : Value} {A1 A2 A3 : Option Addr} {n1 n2 n3 c1 c2 c3 : Nat} {l : Int} {k : Snk} (h : Rd w W vo vu vg (.agg #[.slice A1 n1 c1, .slice A2 n2 c2, .int .i64 l, .slice A3 n3 c3]) k) :
    n3 = k.out.length ∧ l = k.last ∧ wfL l ∧ RowR W (.slice A3 n3 c3) k.out ∧ RowR W (.slice A1 n1 c1) k.op := by
  obtain ⟨vo2, vs, vu2, e, h1, ⟨h2, -, -⟩, h5, h6⟩ := h.at_
  injection e with e
  injection e with e
  simp at e
  obtain ⟨rfl, rfl, rfl, rfl⟩ := e
  have e3 : n3 = k.out.length := by
    obtain ⟨⟨_, _, e, -⟩, -⟩ := h6
    injection e
  exact ⟨e3, rfl, h5, h6, h1⟩
theorem set4g (w : World) (g : Nat) (a b c d : Value) : w.grownBy ((((w.setCell ⟨g, 0, none⟩ a).setCell ⟨g, 1, none⟩ b).setCell ⟨g, 2, none⟩ c).setCell ⟨g, 3, none⟩ d) (some g) := by
  have tr : ∀ {w a b : World} {g : Nat}, w.grownBy a (some g) → a.grownBy b (some g) → w.grownBy b (some g) := fun h k =>
    ⟨k.os.trans h.os, k.tape.trans h.tape, k.output.trans h.output, Nat.le_trans h.size k.size, fun j hj hne => (k.block j (Nat.lt_of_lt_of_le hj h.size) hne).trans (h.block j hj hne)⟩
  exact tr (tr (tr (grown_set _ _ _) (grown_set _ _ _)) (grown_set _ _ _)) (grown_set _ _ _)
/-- Boxes stay when a row of one's own grows that lies elsewhere. -/
theorem heap_grown {W W' : World} {o : Option Nat} {b : Nat} {ob : Obj} (h : W.heap[b]? = some ob) (hg : W.grownBy W' o) (hne : o ≠ some b) : W'.heap[b]? = some ob := (hg.block b (blk_lt h) (fun e => hne e.symm)).trans h
theorem bel_grownO {w a b : World} {B : Nat} {o : Option Nat} (h : Below B w a) (k : a.grownBy b o) (hs : B ≤ a.heap.size) (hg : ∀ g, o = some g → B ≤ g) : Below B w b := h.grown k hs hg
end Go.Proofs.Ytenpgkkefielfaa
