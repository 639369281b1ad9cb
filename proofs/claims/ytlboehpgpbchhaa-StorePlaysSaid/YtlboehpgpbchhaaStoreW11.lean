/-
  WALKS of layer 17: a batch on its way.
-/
import Derived.Test.YtlboehpgpbchhaaStoreW10
import Derived.Test.YtlboehpgpbchhaaStoreW8
set_option linter.unusedVariables false
set_option linter.unusedSimpArgs false
namespace Go.Proofs.Ytlboehpgpbchhaa
open Go.RowKit

/-- A block without texts: no row of cells lies in it. -/
def NoStr (W : World) (g : Nat) : Prop := ∃ (cs : Array Value) (T : TypeId), W.heap[g]? = some (.cells cs T (0, 0)) ∧ ∀ (j : Nat) (s : ByteArray), cs[j]? ≠ some (Value.string s)
theorem NoStr.set {W : World} {g : Nat} (h : NoStr W g) (k : Nat) {u : Value} (hu : ∀ s, u ≠ .string s) : NoStr (W.setCell ⟨g, k, none⟩ u) g := by
  obtain ⟨cs, T, h1, h2⟩ := h
  refine ⟨_, T, blk_set h1 k u, fun j s => ?_⟩
  rw [Array.getElem?_setIfInBounds]
  split
  · split
    · simp only [ne_eq, Option.some.injEq]; exact hu s
    · simp
  · exact h2 j s
theorem NoStr.below {W W' : World} {g : Nat} (h : NoStr W g) (hb : Below W.heap.size W W') : NoStr W' g := by
  obtain ⟨cs, T, h1, h2⟩ := h
  exact ⟨cs, T, heap_below h1 hb, h2⟩
theorem Row.setG {W : World} {v : Value} {l : List Cl} (h : Row Cl.cs 2 W v l) {g : Nat} (hg : NoStr W g) (k : Nat) (u : Value) : Row Cl.cs 2 (W.setCell ⟨g, k, none⟩ u) v l := by
  obtain ⟨cs, T, hg1, hg2⟩ := hg
  obtain ⟨A, c, e, hc, h⟩ := h
  refine ⟨A, c, e, hc, fun hl => ?_⟩
  obtain ⟨b, o, ha, hb, hx⟩ := h hl
  have hne : b ≠ g := by
    intro e2
    subst e2
    obtain ⟨x, hx0⟩ : ∃ x, l[0]? = some x := ⟨_, List.getElem?_eq_getElem hl⟩
    have h0 := hx 0 x 0 _ hx0 rfl
    rw [cellsAt hg1] at h0
    exact hg2 _ _ h0
  refine ⟨b, o, ha, by simpa [World.setCell] using hb, fun i x j u' h1 h2 => ?_⟩
  have h3 := hx i x j u' h1 h2
  rw [← h3]
  unfold World.cell?
  rw [show (W.setCell ⟨g, k, none⟩ u).heap[b]? = W.heap[b]? from Below.heap_setCell W ⟨g, k, none⟩ u b hne]
theorem OkRow.setG {W : World} {v : Value} {l : List Cl} (h : OkRow W v l) {g : Nat} (hg : NoStr W g) (k : Nat) (u : Value) : OkRow (W.setCell ⟨g, k, none⟩ u) v l := ⟨h.1.setG hg k u, h.2⟩
theorem StAt.setG {W : World} {v : Value} {s : St} (h : StAt W v s) {g : Nat} (hg : NoStr W g) (k : Nat) (u : Value) : StAt (W.setCell ⟨g, k, none⟩ u) v s := by
  obtain ⟨vc, vf, e, h1, h2⟩ := h
  exact ⟨vc, vf, e, h1.setG hg k u, h2.setG hg k u⟩
/-- What a batch holds: a store, cells that are still to be written, an error. -/
def BoxAt (g : Nat) (W : World) (s : St) (rest : List Cl) (bad : Int) : Prop :=
  ∃ A1 n1 c1 A2 n2 c2 A3 n3 c3, W.heap[g]? = some (.cells #[.slice A1 n1 c1, .slice A2 n2 c2, .bool s.d, .slice A3 n3 c3, .int .i64 bad] 82 (0, 0)) ∧ StAt W (.agg #[.slice A1 n1 c1, .slice A2 n2 c2, .bool s.d]) s ∧ OkRow W (.slice A3 n3 c3) rest
theorem nostr5 {W : World} {g : Nat} {A1 A2 A3 : Option Addr} {n1 c1 n2 c2 n3 c3 : Nat} {d : Bool} {b : Int} {T : TypeId} (h : W.heap[g]? = some (.cells #[.slice A1 n1 c1, .slice A2 n2 c2, .bool d, .slice A3 n3 c3, .int .i64 b] T (0, 0))) : NoStr W g := by
  refine ⟨_, T, h, fun j s => ?_⟩
  match j with
  | 0 => simp
  | 1 => simp
  | 2 => simp
  | 3 => simp
  | 4 => simp
  | j + 5 => simp
theorem BoxAt.below {g : Nat} {W W' : World} {s : St} {rest : List Cl} {bad : Int} (h : BoxAt g W s rest bad) (hb : Below W.heap.size W W') : BoxAt g W' s rest bad := by
  obtain ⟨A1, n1, c1, A2, n2, c2, A3, n3, c3, h1, h2, h3⟩ := h
  exact ⟨A1, n1, c1, A2, n2, c2, A3, n3, c3, heap_below h1 hb, h2.below hb, h3.below hb⟩
/-- A method of a batch answers: the batch holds that now; nothing else that stood has changed. -/
def BwTo (g : Nat) (r : St × Int) (rest : List Cl) (w : World) (e : Ending) (w' : World) : Prop := e = .returned (.tuple #[]) ∧ BoxAt g w' r.1 rest r.2 ∧ w.grownBy w' (some g)
theorem grown_of {w w' : World} {g : Nat} (h : Below w.heap.size w w') : w.grownBy w' (some g) := ⟨h.os, h.tape, h.output, h.size, fun k hk _ => h.block k hk⟩
theorem grown_tr {w a b : World} {g : Nat} (h : w.grownBy a (some g)) (k : a.grownBy b (some g)) : w.grownBy b (some g) :=
  ⟨k.os.trans h.os, k.tape.trans h.tape, k.output.trans h.output, Nat.le_trans h.size k.size, fun j hj hne => (k.block j (Nat.lt_of_lt_of_le hj h.size) hne).trans (h.block j hj hne)⟩
theorem Row.grownG {W W' : World} {v : Value} {l : List Cl} (h : Row Cl.cs 2 W v l) {g : Nat} (hg : NoStr W g) (hb : W.grownBy W' (some g)) : Row Cl.cs 2 W' v l := by
  obtain ⟨cs, T, hg1, hg2⟩ := hg
  obtain ⟨A, c, e, hc, h⟩ := h
  refine ⟨A, c, e, hc, fun hl => ?_⟩
  obtain ⟨b, o, ha, hb', hx⟩ := h hl
  have hne : b ≠ g := by
    intro e2
    subst e2
    obtain ⟨x, hx0⟩ : ∃ x, l[0]? = some x := ⟨_, List.getElem?_eq_getElem hl⟩
    have h0 := hx 0 x 0 _ hx0 rfl
    rw [cellsAt hg1] at h0
    exact hg2 _ _ h0
  refine ⟨b, o, ha, Nat.lt_of_lt_of_le hb' hb.size, fun i x j u' h1 h2 => ?_⟩
  have h3 := hx i x j u' h1 h2
  rw [← h3]
  unfold World.cell?
  rw [hb.block b hb' (fun e => hne (by injection e))]
theorem bx_end1 {w w3 : World} {g : Nat} {B1 B2 A1 A2 A3 : Option Addr} {k1 e1 k2 e2 n1 c1 n2 c2 n3 c3 : Nat} {d d0 : Bool} {b er : Int} {s : St} {rest : List Cl}
    (hg : w3.heap[g]? = some (.cells #[.slice B1 k1 e1, .slice B2 k2 e2, .bool d0, .slice A3 n3 c3, .int .i64 b] 82 (0, 0))) (hd : s.d = d)
    (hs : StAt w3 (.agg #[.slice A1 n1 c1, .slice A2 n2 c2, .bool d]) s) (hr : OkRow w3 (.slice A3 n3 c3) rest) (hb : w.grownBy w3 (some g)) :
    BwTo g (s, er) rest w (.returned (.tuple #[])) ((((w3.setCell ⟨g, 0, none⟩ (.slice A1 n1 c1)).setCell ⟨g, 1, none⟩ (.slice A2 n2 c2)).setCell ⟨g, 2, none⟩ (.bool d)).setCell ⟨g, 4, none⟩ (.int .i64 er)) := by
  subst hd
  have x0 := nostr5 hg
  have x1 := x0.set 0 (u := .slice A1 n1 c1) (by simp)
  have x2 := x1.set 1 (u := .slice A2 n2 c2) (by simp)
  have x3 := x2.set 2 (u := .bool s.d) (by simp)
  refine ⟨rfl, ⟨A1, n1, c1, A2, n2, c2, A3, n3, c3, ?_, (((hs.setG x0 _ _).setG x1 _ _).setG x2 _ _).setG x3 _ _, (((hr.setG x0 _ _).setG x1 _ _).setG x2 _ _).setG x3 _ _⟩, ?_⟩
  · have h := blk_set (blk_set (blk_set (blk_set hg 0 (.slice A1 n1 c1)) 1 (.slice A2 n2 c2)) 2 (.bool s.d)) 4 (.int .i64 er)
    simpa using h
  · exact grown_tr (grown_tr (grown_tr (grown_tr hb (grown_set _ _ _)) (grown_set _ _ _)) (grown_set _ _ _)) (grown_set _ _ _)
theorem bx_end2 {w w3 : World} {g : Nat} {B1 B2 A1 A2 A3 : Option Addr} {k1 e1 k2 e2 n1 c1 n2 c2 n3 c3 : Nat} {d d0 : Bool} {b er : Int} {s : St} {rest : List Cl}
    (hg : w3.heap[g]? = some (.cells #[.slice B1 k1 e1, .slice B2 k2 e2, .bool d0, .slice A3 n3 c3, .int .i64 b] 82 (0, 0))) (hd : s.d = d)
    (hs : StAt w3 (.agg #[.slice A1 n1 c1, .slice A2 n2 c2, .bool d]) s) (hr : OkRow w3 (.slice A3 n3 c3) rest) (hb : w.grownBy w3 (some g)) :
    BwTo g (s, er) rest w (.returned (.tuple #[])) ((((w3.setCell ⟨g, 4, none⟩ (.int .i64 er)).setCell ⟨g, 0, none⟩ (.slice A1 n1 c1)).setCell ⟨g, 1, none⟩ (.slice A2 n2 c2)).setCell ⟨g, 2, none⟩ (.bool d)) := by
  subst hd
  have x0 := nostr5 hg
  have x1 := x0.set 4 (u := .int .i64 er) (by simp)
  have x2 := x1.set 0 (u := .slice A1 n1 c1) (by simp)
  have x3 := x2.set 1 (u := .slice A2 n2 c2) (by simp)
  refine ⟨rfl, ⟨A1, n1, c1, A2, n2, c2, A3, n3, c3, ?_, (((hs.setG x0 _ _).setG x1 _ _).setG x2 _ _).setG x3 _ _, (((hr.setG x0 _ _).setG x1 _ _).setG x2 _ _).setG x3 _ _⟩, ?_⟩
  · have h := blk_set (blk_set (blk_set (blk_set hg 4 (.int .i64 er)) 0 (.slice A1 n1 c1)) 1 (.slice A2 n2 c2)) 2 (.bool s.d)
    simpa using h
  · exact grown_tr (grown_tr (grown_tr (grown_tr hb (grown_set _ _ _)) (grown_set _ _ _)) (grown_set _ _ _)) (grown_set _ _ _)
set_option maxRecDepth 100000 in
set_option maxHeartbeats 4000000 in
theorem bcommit_any (g : Nat) (s : St) (rest : List Cl) (b0 : Int) (w : World) (h : BoxAt g w s rest b0) :
    Calls Try.prog 43 #[.pointer (some ⟨g, 0, none⟩)] w (BwTo g (commitS s) rest w) := by
  obtain ⟨A1, n1, c1, A2, n2, c2, A3, n3, c3, hg, hs, hr⟩ := h
  have HC := Lib.hid (commit_any s _ w hs)
  have HR := Lib.hid hr
  have HG := Lib.hid hg
  obtain ⟨R, hR⟩ : ∃ R, commitS s = R := ⟨_, rfl⟩
  rw [hR] at HC ⊢
  obtain ⟨rs, re⟩ := R
  have hz := blk_lt hg
  have x0 := cellsAt hg 0
  have x1 := cellsAt hg 1
  have x2 := cellsAt hg 2
  simp at x0 x1 x2
  clear hg hs hr hR
  go_enter Try.func43, Try.ntmps43
  go_wp2_with fail
  refine HC.out.mono ?_
  rintro e w1 ⟨v, rfl, hs1, hb1⟩
  obtain ⟨A4, n4, c4, A5, n5, c5, rfl, -, -⟩ := hs1.form3
  have HG1 := Lib.hid (heap_below HG.out hb1)
  have HR1 := Lib.hid (HR.out.below hb1)
  have HS1 := Lib.hid hs1
  have HB1 := Lib.hid (grown_of (g := g) hb1)
  clear x0 x1 x2 hz hb1 hs1 HC
  obtain ⟨d, hd⟩ : ∃ d, rs.d = d := ⟨_, rfl⟩
  simp only at HS1 ⊢
  rw [hd] at HS1 ⊢
  have HD := Lib.hid hd
  clear hd
  have hz := blk_lt HG1.out
  have f0 := frozAt HG1.out
  have y0 := cellsAt HG1.out 0
  have y1 := cellsAt HG1.out 1
  have y2 := cellsAt HG1.out 2
  have y4 := cellsAt HG1.out 4
  simp at y0 y1 y2 y4
  go_wp2_with fail
  go_end0
  exact bx_end1 HG1.out HD.out HS1.out HR1.out HB1.out
end Go.Proofs.Ytlboehpgpbchhaa
