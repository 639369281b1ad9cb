/-
  PLAIN: results as items, in frames, and in a sink.
-/
import Derived.Test.YtlboehpgpbchhaaGreatTopW22
import Derived.Test.YtlboehpgpbchhaaGreatItT4
import Derived.Test.YtlboehpgpbchhaaGreatSeT2
import Derived.Test.YtlboehpgpbchhaaGreatSnT2
set_option linter.unusedVariables false
set_option linter.unusedSimpArgs false
namespace Go.Proofs.YtlboehpgpbchhaaGreat
open Go.RowKit

def resOf (q : Pn × Int) : Itm.Res := ⟨q.1.lo, q.1.hi, q.1.k, q.1.n, q.2⟩
theorem rs_flat (qs : List (Pn × Int)) : qs.flatMap rsOf = (qs.map resOf).flatMap Itm.Res.cs := by
  induction qs with
  | nil => rfl
  | cons a t ih => rw [List.flatMap_cons, List.map_cons, List.flatMap_cons, ih]; rfl
def itOf (r : Itm.Res) : Itm.It := ⟨5, ⟨#[]⟩, 0, 0, 0, 0, r.lo, r.hi, r.k, r.n, r.v⟩
structure ResOk (r : Itm.Res) : Prop where
  may : Itm.mayB r = true
  wf : r.Wf
theorem emp_pos {k : ByteArray} (h : (!k.toList.isEmpty) = true) : 0 < k.size := by
  rw [Itm.toListL] at h
  obtain ⟨⟨l⟩⟩ := k
  cases l with
  | nil => cases h
  | cons a t => simp [ByteArray.size]
theorem res_ok {q : Pn × Int} (h : pmB q.1 = true ∧ q.1.Wf ∧ i64B q.2 ∧ q.1.n ≤ 1073741824) : ResOk (resOf q) := by
  obtain ⟨h1, ⟨a, b, c, d, -, -⟩, h3, h4⟩ := h
  unfold pmB at h1
  simp only [Bool.and_eq_true, decide_eq_true_eq] at h1
  obtain ⟨⟨⟨⟨⟨e1, e2⟩, e3⟩, e4⟩, e5⟩, e6⟩ := h1
  have e0 := emp_pos e1
  refine ⟨?_, a, b, c, d, h3⟩
  show Itm.resB q.1.lo q.1.hi q.1.k q.1.n = true
  simp only [Itm.resB, Itm.keyB, Bool.and_eq_true, decide_eq_true_eq]
  exact ⟨⟨e0, e2⟩, e3, e4, e5, e6, h4⟩
theorem it_right {r : Itm.Res} (h : ResOk r) : Itm.rightI (itOf r) = true := Itm.right_res _ _ _ _ _ true h.may
theorem it_wf {r : Itm.Res} (h : ResOk r) : (itOf r).Wf := by
  obtain ⟨a, b, c, d, e⟩ := h.wf
  exact ⟨by unfold Itm.wfL itOf; simp, Itm.szZ, Itm.wf0, Itm.wf0, Itm.wf0, Itm.wf0, a, b, c, d, e⟩
def tOf (r : Itm.Res) : ByteArray := Itm.bytesI (itOf r)
theorem tOf_size {r : Itm.Res} (h : ResOk r) : 1 ≤ (tOf r).size ∧ (tOf r).size ≤ 100 := Itm.bytesI_size _ (it_wf h) (it_right h)
theorem get_tOf {r : Itm.Res} (h : ResOk r) : Itm.getP (tOf r) = (itOf r, 0) := by
  have h1 := Itm.get_back (itOf r) (it_wf h) (it_right h) ⟨#[]⟩
  rw [Itm.app_emp] at h1
  exact h1
theorem frm_le {b : ByteArray} (h : b.size ≤ 100) : (Sel.frm b).size ≤ 115 := by
  unfold Sel.frm
  rw [ByteArray.size_append, Sel.headS_size, Sel.be4S_size]
  have : (dig b.size).length ≤ 10 := by rw [dig_length]; have := cnt_le (n := b.size) (by omega); omega
  omega
theorem rowL_le : ∀ (T : List ByteArray), (∀ b ∈ T, b.size ≤ 100) → (Sel.rowL T).length ≤ 115 * T.length
  | [], _ => Nat.le_refl _
  | b :: t, h => by
    have h1 := rowL_le t (fun x hx => h x (List.mem_cons_of_mem _ hx))
    have h2 := frm_le (h b (List.mem_cons_self ..))
    show ((Sel.frm b).data.toList ++ Sel.rowL t).length ≤ _
    rw [List.length_append, List.length_cons]
    have : (Sel.frm b).data.toList.length = (Sel.frm b).size := Array.length_toList
    omega
theorem rowB_le {T : List ByteArray} (h : ∀ b ∈ T, b.size ≤ 100) (hl : T.length ≤ 2000) : (Sel.rowB T).size ≤ 230000 := by
  rw [Sel.rowB_size]
  have := rowL_le T h
  omega
theorem all_rowB {T : List ByteArray} (h : ∀ b ∈ T, b.size ≤ 100) : Sel.allR (Sel.rowB T) = (T, (Sel.rowB T).size, 0) :=
  Sel.allR_back (s := Sel.rowB T) rfl (fun b hb => by have := h b hb; omega)
theorem tok_le {L : List Itm.Res} (h : ∀ r ∈ L, ResOk r) : ∀ b ∈ L.map tOf, b.size ≤ 100 := by
  intro b hb
  obtain ⟨r, hr, rfl⟩ := List.mem_map.1 hb
  exact (tOf_size (h r hr)).2
theorem snk_cnt (op : List Itm.Res) (h : op.length ≤ 2000) : Itm.cntS op [] [] = op.length := by
  unfold Itm.cntS Itm.cntTo Itm.capN
  simp only [List.length_nil]
  omega
theorem snk_right {op : List Itm.Res} (h : op.length ≤ 2000) (ho : ∀ r ∈ op, ResOk r) : Itm.rightS op [] 0 [] = true := by
  unfold Itm.rightS Itm.headS
  rw [snk_cnt op h]
  have : Itm.allB op = true := by
    unfold Itm.allB
    rw [List.all_eq_true]
    intro j hj
    have hj := List.mem_range.1 hj
    unfold Itm.resAt
    rw [List.getElem!_eq_getElem?_getD, List.getElem?_eq_getElem hj]
    exact (ho _ (List.getElem_mem hj)).may
  rw [this]
  simp [Itm.allB]
  omega
theorem snk_zero (W : World) : Itm.SinkAt W (.agg #[.slice none 0 0, .slice none 0 0, .int .i64 0, .slice none 0 0]) [] [] 0 [] :=
  ⟨_, _, _, rfl, ⟨Row.none_, by simp, by simp⟩, ⟨Row.none_, by simp, by simp⟩, Itm.wf0, ⟨Row.none_, by simp, by simp⟩⟩
theorem row_setG {W : World} {v : Value} {l : List Itm.Res} (h : Row Itm.Res.cs 5 W v l) {g : Nat} {cs : Array Value} {T : TypeId} (hg : W.heap[g]? = some (.cells cs T (0, 0))) (hc : cs.size ≤ 4) (k : Nat) (u : Value) : Row Itm.Res.cs 5 (W.setCell ⟨g, k, none⟩ u) v l := by
  obtain ⟨A, c, e, hcc, h⟩ := h
  refine ⟨A, c, e, hcc, fun hl => ?_⟩
  obtain ⟨b, o, ha, hb, hx⟩ := h hl
  have hne : b ≠ g := by
    intro e2
    subst e2
    obtain ⟨x, hx0⟩ : ∃ x, l[0]? = some x := ⟨_, List.getElem?_eq_getElem hl⟩
    have h0 := hx 0 x 4 _ hx0 rfl
    rw [cellsAt hg] at h0
    have := (Array.getElem?_eq_some_iff.1 h0).1
    omega
  refine ⟨b, o, ha, by simpa [World.setCell] using hb, fun i x j u' h1 h2 => ?_⟩
  have h3 := hx i x j u' h1 h2
  rw [← h3]
  unfold World.cell?
  rw [show (W.setCell ⟨g, k, none⟩ u).heap[b]? = W.heap[b]? from Below.heap_setCell W ⟨g, k, none⟩ u b hne]
theorem row_nil {α : Type} {enc : α → List Value} {k : Nat} {W W' : World} {v : Value} (h : Row enc k W v ([] : List α)) : Row enc k W' v [] := by
  obtain ⟨A, c, e, hc, -⟩ := h
  exact ⟨A, c, e, hc, fun h => absurd h (by simp)⟩
theorem snk_setG {W : World} {v : Value} {op : List Itm.Res} (h : Itm.SinkAt W v op [] 0 []) {g : Nat} {cs : Array Value} {T : TypeId} (hg : W.heap[g]? = some (.cells cs T (0, 0))) (hc : cs.size ≤ 4) (k : Nat) (u : Value) : Itm.SinkAt (W.setCell ⟨g, k, none⟩ u) v op [] 0 [] := by
  obtain ⟨vo, vs, vu, e, ⟨h1, h2⟩, ⟨h3, h4, h5⟩, h6, ⟨h7, h8⟩⟩ := h
  exact ⟨vo, vs, vu, e, ⟨row_setG h1 hg hc k u, h2⟩, ⟨row_nil h3, fun x hx => absurd hx (by simp), h5⟩, h6, ⟨row_nil h7, h8⟩⟩
theorem snk_set4 {W : World} {v : Value} {op : List Itm.Res} (h : Itm.SinkAt W v op [] 0 []) {g : Nat} {x0 x1 x2 x3 : Value} {T : TypeId} (hg : W.heap[g]? = some (.cells #[x0, x1, x2, x3] T (0, 0))) (a b c d : Value) :
    Itm.SinkAt ((((W.setCell ⟨g, 0, none⟩ a).setCell ⟨g, 1, none⟩ b).setCell ⟨g, 2, none⟩ c).setCell ⟨g, 3, none⟩ d) v op [] 0 [] := by
  have g1 := blk_set hg 0 a
  have g2 := blk_set g1 1 b
  have g3 := blk_set g2 2 c
  exact snk_setG (snk_setG (snk_setG (snk_setG h hg (by simp) 0 a) g1 (by simp) 1 b) g2 (by simp) 2 c) g3 (by simp) 3 d
/-- A sink in a box. -/
def BoxS (g : Nat) (W : World) (op : List Itm.Res) : Prop :=
  ∃ vo vs vu, W.heap[g]? = some (.cells #[vo, vs, .int .i64 0, vu] 33 (0, 0)) ∧ Itm.SinkAt W (.agg #[vo, vs, .int .i64 0, vu]) op [] 0 []
/-- What lies there between two rounds of the first loop. -/
def PkRel (L : List Itm.Res) (W0 : World) (row i : Value) (wr : World) : Prop :=
  ∃ k : Nat, k ≤ L.length ∧ i = .int .i64 k ∧ row = .string (Sel.rowB ((L.take k).map tOf)) ∧ BoxS W0.heap.size wr (L.take k) ∧ Below W0.heap.size W0 wr
end Go.Proofs.YtlboehpgpbchhaaGreat
