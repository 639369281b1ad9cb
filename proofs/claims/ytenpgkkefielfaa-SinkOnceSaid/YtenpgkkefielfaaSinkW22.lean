/-
  WALKS of layer 19: the reference's Commit.
-/
import Derived.Test.YtenpgkkefielfaaSinkW21
import Derived.Deep.DeepCutAuto
set_option linter.unusedVariables false
set_option linter.unusedSimpArgs false
namespace Go.Proofs.Ytenpgkkefielfaa
open Go.RowKit

/-- Rows of one's own of two types lie in two blocks. -/
theorem own_ne {w : World} {b1 b2 : Nat} {e1 e2 : TypeId} {s1 s2 n1 n2 : Nat} {v1 v2 : Value} {x1 x2 : List Value} (h1 : w.ownsRow b1 e1 s1 v1 n1 x1) (h2 : w.ownsRow b2 e2 s2 v2 n2 x2) (hne : e1 ≠ e2) : v1.ownBlock = none ∨ v1.ownBlock ≠ v2.ownBlock := by
  rcases h1.2 with ⟨rfl, -⟩ | ⟨g, cap, cur, rfl, -, hg, -⟩
  · exact .inl rfl
  · rcases h2.2 with ⟨rfl, -⟩ | ⟨g2, cap2, cur2, rfl, -, hg2, -⟩
    · right; simp [Value.ownBlock]
    · right
      intro he
      simp [Value.ownBlock] at he
      subst he
      rw [hg] at hg2
      injection hg2 with hg2
      injection hg2 with _ h _
      exact hne h
theorem own_keep {w w' : World} {b : Nat} {e : TypeId} {sz n : Nat} {v : Value} {xs : List Value} (h : w.ownsRow b e sz v n xs) (hk : ∀ k, v.ownBlock = some k → w'.heap[k]? = w.heap[k]?) : w'.ownsRow b e sz v n xs := by
  refine ⟨h.1, ?_⟩
  rcases h.2 with hn | ⟨g, cap, cur, rfl, hb, hg, rest⟩
  · exact .inl hn
  · exact .inr ⟨g, cap, cur, rfl, hb, (hk g rfl).trans hg, rest⟩
/-- append of one element (its cells lie in the block that was just made) to a row of one's own. -/
theorem wpList_push {P : Program} (w : World) {ops : Array Oper} {rest : List Oper} {o : Oper} {a : Act} {Q : Exit → Act → World → Prop} (hgd : o.guard = none) (s x : Operand) (t : TypeId)
    (ho : o.op = .call { callee := .builtin .append, args := #[s, x], argTypes := #[t, t] })
    (base : Nat) (e : TypeId) (i : TypeInfo) (z : Value) (size bytes : Nat) (ht : P.underlying t = some (.slice e)) (hi : P.info? e = some i) (hz : i.zero = some z)
    (hsize : i.size = size) (hby : i.bytes = bytes) (hzs : z.cells.size = size) (hsz : 0 < size)
    (v : Value) (n : Nat) (xs : List Value) (hs : a.eval s = v) (hown : w.ownsRow base e size v n xs)
    (cs : Array Value) (T : TypeId) (hx : a.eval x = .slice (some ⟨w.heap.size, 0, none⟩) 1 1) (hcs : cs.size = size) (h1 : ∀ u ∈ cs.toList, u.oneCell' = true)
    (h63 : n + 1 ≤ maxLen) (hbytes : (n + 1) * bytes ≤ 140737488355328) (hbase : base ≤ w.heap.size)
    (h : ∀ v' w', w'.ownsRow base e size v' (n + 1) (xs ++ cs.toList) → Below base w w' → (∀ k, k < w.heap.size → v.ownBlock ≠ some k → w'.heap[k]? = w.heap[k]?) → wpList P ops Q rest (a.put o.dst v') w') :
    wpList P ops Q (o :: rest) a (w.alloc (.cells cs T)) := by
  refine wpList_append_own _ hgd s x t ho base e i z size bytes ht hi hz hsize hby hzs hsz v n xs hs (hown.alloc _) ⟨w.heap.size, 0, none⟩ 1 1 cs.toList hx (by simpa using hcs) ?_ h1 h63 hbytes (by simp; omega) ?_
  · intro j u hj
    have e : (⟨w.heap.size, 0, none⟩ : Addr).add j = ⟨w.heap.size, j, none⟩ := by simp [Addr.add_lit]
    rw [e, World.cell?_alloc_new]
    simpa using hj
  · intro v' w' hown' hgrow _
    refine h v' w' hown' (((Below.refl base w).alloc hbase _).grown hgrow (by simp; omega) (fun q hq => (hown.lt q hq).1)) ?_
    intro k hk hne
    exact (hgrow.block k (by simp; omega) (fun e => hne e.symm)).trans (heap_alloc_old w _ hk)
def keepSt (st : List Stg) (n : Int) : List Stg := st.filter (fun x => decide (n < x.n))
def gone (out : List Res) (st : List Stg) (n : Int) : List Res := out ++ (st.filter (fun x => decide (x.n ≤ n))).flatMap Stg.l
theorem keepSt_hi {st : List Stg} {n : Int} {k : Nat} {x : Stg} (h : st[k]? = some x) (hx : n < x.n) : keepSt (st.take (k + 1)) n = keepSt (st.take k) n ++ [x] := by
  unfold keepSt
  rw [List.take_add_one, h, List.filter_append]
  simp [hx]
theorem keepSt_lo {st : List Stg} {n : Int} {k : Nat} {x : Stg} (h : st[k]? = some x) (hx : ¬ n < x.n) : keepSt (st.take (k + 1)) n = keepSt (st.take k) n := by
  unfold keepSt
  rw [List.take_add_one, h, List.filter_append]
  simp [hx]
theorem gone_hi {out : List Res} {st : List Stg} {n : Int} {k : Nat} {x : Stg} (h : st[k]? = some x) (hx : n < x.n) : gone out (st.take (k + 1)) n = gone out (st.take k) n := by
  unfold gone
  rw [List.take_add_one, h, List.filter_append]
  have : ¬ x.n ≤ n := by omega
  simp [this]
theorem gone_lo {out : List Res} {st : List Stg} {n : Int} {k : Nat} {x : Stg} (h : st[k]? = some x) (hx : ¬ n < x.n) : gone out (st.take (k + 1)) n = gone out (st.take k) n ++ x.l := by
  unfold gone
  rw [List.take_add_one, h, List.filter_append, List.flatMap_append]
  have : x.n ≤ n := by omega
  simp [this]
theorem filter_len (p : Stg → Bool) : ∀ st : List Stg, ((st.filter p).flatMap Stg.l).length ≤ (st.flatMap Stg.l).length
  | [] => Nat.le_refl _
  | a :: l => by
    have := filter_len p l
    rw [List.filter_cons]
    split
    · simp only [List.flatMap_cons, List.length_append]; omega
    · simp only [List.flatMap_cons, List.length_append]; omega
theorem gone_len {op : List Res} {st : List Stg} {last : Int} {out : List Res} (h : rightS op st last out = true) (n : Int) (k : Nat) (hk : k ≤ st.length) : (gone out (st.take k) n).length ≤ 20000 := by
  have h1 := outTo_len h k hk
  have h2 := filter_len (fun x => decide (x.n ≤ n)) (st.take k)
  unfold outTo at h1
  unfold gone
  rw [List.length_append] at h1 ⊢
  omega
theorem keepSt_len (st : List Stg) (n : Int) : (keepSt st n).length ≤ st.length := List.length_filter_le _ _
def anyN (st : List Stg) (n : Int) (k : Nat) : Bool := (st.take k).any (fun x => x.n == n)
theorem anyN_succ {st : List Stg} {n : Int} {k : Nat} {x : Stg} (h : st[k]? = some x) : anyN st n (k + 1) = (anyN st n k || (x.n == n)) := by
  unfold anyN
  rw [List.take_add_one, h, List.any_append]
  simp
def RcTo (op : List Res) (st : List Stg) (out : List Res) (n : Int) (e : Ending) (w' : World) : Prop :=
  (st.any (fun x => x.n == n) = true → ∃ v', e = .returned (.tuple #[v', .int .i64 0]) ∧ SinkAt w' v' op (keepSt st n) n (gone out st n)) ∧ (st.any (fun x => x.n == n) = false → e = .returned (.tuple #[zS, .int .i64 190]))
def RcOut (out : List Res) (T : TypeId) (x0 x1 x2 : Value) (w0 : World) (i : Value) (wr : World) : Prop :=
  ∃ (k : Nat) (u : Value), k ≤ out.length ∧ i = .int .i64 k ∧ wr.heap[w0.heap.size]? = some (.cells #[x0, x1, x2, u] T (0, 0)) ∧ wr.ownsRow (w0.heap.size + 1) 41 5 u k ((out.take k).flatMap Res.cs) ∧ Below w0.heap.size w0 wr
def RcSt (st : List Stg) (out : List Res) (n : Int) (T : TypeId) (x0 x2 : Value) (w0 : World) (t i : Value) (wr : World) : Prop :=
  ∃ (k : Nat) (u1 u3 : Value), k ≤ st.length ∧ i = .int .i64 k ∧ t = .bool (anyN st n k) ∧ wr.heap[w0.heap.size]? = some (.cells #[x0, u1, x2, u3] T (0, 0)) ∧ wr.ownsRow (w0.heap.size + 1) 85 2 u1 (keepSt (st.take k) n).length ((keepSt (st.take k) n).flatMap Stg.cs) ∧ wr.ownsRow (w0.heap.size + 1) 41 5 u3 (gone out (st.take k) n).length ((gone out (st.take k) n).flatMap Res.cs) ∧ Below w0.heap.size w0 wr
def RcIn (xl L : List Res) (KS : List Stg) (T : TypeId) (x0 u1 x2 : Value) (w0 : World) (i : Value) (wr : World) : Prop :=
  ∃ (j : Nat) (u3 : Value), j ≤ xl.length ∧ i = .int .i64 j ∧ wr.heap[w0.heap.size]? = some (.cells #[x0, u1, x2, u3] T (0, 0)) ∧ wr.ownsRow (w0.heap.size + 1) 85 2 u1 KS.length (KS.flatMap Stg.cs) ∧ wr.ownsRow (w0.heap.size + 1) 41 5 u3 (L.length + j) ((L ++ xl.take j).flatMap Res.cs) ∧ Below w0.heap.size w0 wr
set_option maxRecDepth 100000 in
set_option maxHeartbeats 8000000 in
theorem rcommit_no (op : List Res) (st : List Stg) (last : Int) (out : List Res) (n : Int) (hn : wfL n) (v : Value) (w : World) (hv : SinkAt w v op st last out) (h : rightS op st last out = false) :
    Calls Try.prog 41 #[v, .int .i64 n] w fun e w' => e = .returned (.tuple #[zS, .int .i64 1]) ∧ Below w.heap.size w w' := by
  have HR := Lib.hid (fun v W hW => rsright_any op st last out v W hW false h)
  obtain ⟨vo, vs, vu, ev, hR1, hR2, hR4, hR3⟩ := hv
  have R1 := Lib.hid hR1
  have R2 := Lib.hid hR2
  have R3 := Lib.hid hR3
  have H4 := Lib.hid hR4
  have hv : SinkAt w v op st last out := ⟨vo, vs, vu, ev, hR1, hR2, hR4, hR3⟩
  clear hR1 hR2 hR3 hR4
  have HV := Lib.hid hv
  obtain ⟨A1, c1, A2, c2, A3, c3, ev2⟩ := sink_form hv
  subst ev2
  injection ev with ev
  injection ev with ev
  simp at ev
  obtain ⟨rfl, rfl, rfl⟩ := ev
  have hl4 := hn
  unfold wfL at hl4
  have HN := Lib.hid hn
  clear hv h hn
  unfold zS
  go_enter Try.func41, Try.ntmps41
  go_wp2_with fail
  obtain ⟨W1, hW1⟩ : ∃ W1, W1 = (w.alloc (.cells #[.slice A1 op.length c1, .slice A2 st.length c2, .int .i64 last, .slice A3 out.length c3] 66)).alloc (.cells #[.slice none 0 0, .slice none 0 0, .int .i64 0, .slice none 0 0] 66) := ⟨_, rfl⟩
  rw [← hW1]
  have BW := Lib.hid (show Below w.heap.size w W1 by rw [hW1]; exact bel_alloc (bel_alloc (Below.refl _ _) _) _)
  have K1 := Lib.hid (show W1.heap[w.heap.size + 1]? = some (.cells #[.slice none 0 0, .slice none 0 0, .int .i64 0, .slice none 0 0] 66 (0, 0)) by rw [hW1]; exact heap_at _ _ _ (by simp))
  have K0 := Lib.hid (show W1.heap[w.heap.size]? = some (.cells #[.slice A1 op.length c1, .slice A2 st.length c2, .int .i64 last, .slice A3 out.length c3] 66 (0, 0)) by rw [hW1]; exact newA (bel_alloc (Below.refl _ _) _))
  clear hW1
  refine (HR.out _ _ (HV.out.below BW.out)).mono ?_
  rintro e w2 ⟨rfl, hb1⟩
  have B2 := Lib.hid (bThen BW.out hb1)
  have M0 := Lib.hid (heap_below K0.out hb1)
  have M1 := Lib.hid (heap_below K1.out hb1)
  clear hb1 K0 K1
  have hz1 := blk_lt M1.out
  have hz0 := blk_lt M0.out
  have d0 := cellsAt M1.out 0
  have d1 := cellsAt M1.out 1
  have d2 := cellsAt M1.out 2
  have d3 := cellsAt M1.out 3
  have dz := frozAt M1.out
  simp at d0 d1 d2 d3
  have s0 := cellsAt M0.out 0
  have s1 := cellsAt M0.out 1
  have s2 := cellsAt M0.out 2
  have s3 := cellsAt M0.out 3
  have sz := frozAt M0.out
  simp at s0 s1 s2 s3
  go_wp2_with fail
  have E := set4 M1.out (.slice none 0 0) (.slice none 0 0) (.int .i64 0) (.slice none 0 0)
  have BE := Lib.hid (bel4 B2.out (g := w.heap.size + 1) (by omega) (.slice none 0 0) (.slice none 0 0) (.int .i64 0) (.slice none 0 0))
  clear d0 d1 d2 d3 dz
  generalize ((((w2.setCell ⟨w.heap.size + 1, 0, none⟩ (.slice none 0 0)).setCell ⟨w.heap.size + 1, 1, none⟩ (.slice none 0 0)).setCell ⟨w.heap.size + 1, 2, none⟩ (.int .i64 0)).setCell ⟨w.heap.size + 1, 3, none⟩ (.slice none 0 0)) = W6 at *
  have e0 := cellsAt E 0
  have e1 := cellsAt E 1
  have e2 := cellsAt E 2
  have e3 := cellsAt E 3
  simp at e0 e1 e2 e3
  exact bodyPost_ret (v := .tuple #[.agg #[.slice none 0 0, .slice none 0 0, .int .i64 0, .slice none 0 0], .int .i64 1]) (by simp [results, Try.results41, go_sem, e0, e1, e2, e3]) rfl ⟨rfl, BE.out⟩
set_option maxRecDepth 100000 in
set_option maxHeartbeats 8000000 in
theorem rcommit_same (op : List Res) (st : List Stg) (last : Int) (out : List Res) (n : Int) (hn : wfL n) (v : Value) (w : World) (hv : SinkAt w v op st last out) (h : rightS op st last out = true) (h2 : n ≤ last) :
    Calls Try.prog 41 #[v, .int .i64 n] w fun e w' => (∃ v', e = .returned (.tuple #[v', .int .i64 0]) ∧ SinkAt w' v' op st last out) ∧ Below w.heap.size w w' := by
  have HR := Lib.hid (fun v W hW => rsright_any op st last out v W hW true h)
  obtain ⟨vo, vs, vu, ev, hR1, hR2, hR4, hR3⟩ := hv
  have R1 := Lib.hid hR1
  have R2 := Lib.hid hR2
  have R3 := Lib.hid hR3
  have H4 := Lib.hid hR4
  have hv : SinkAt w v op st last out := ⟨vo, vs, vu, ev, hR1, hR2, hR4, hR3⟩
  clear hR1 hR2 hR3 hR4
  have HV := Lib.hid hv
  obtain ⟨A1, c1, A2, c2, A3, c3, ev2⟩ := sink_form hv
  subst ev2
  injection ev with ev
  injection ev with ev
  simp at ev
  obtain ⟨rfl, rfl, rfl⟩ := ev
  have hl4 := hn
  unfold wfL at hl4
  have HN := Lib.hid hn
  clear hv h hn
  go_enter Try.func41, Try.ntmps41
  go_wp2_with fail
  obtain ⟨W1, hW1⟩ : ∃ W1, W1 = (w.alloc (.cells #[.slice A1 op.length c1, .slice A2 st.length c2, .int .i64 last, .slice A3 out.length c3] 66)).alloc (.cells #[.slice none 0 0, .slice none 0 0, .int .i64 0, .slice none 0 0] 66) := ⟨_, rfl⟩
  rw [← hW1]
  have BW := Lib.hid (show Below w.heap.size w W1 by rw [hW1]; exact bel_alloc (bel_alloc (Below.refl _ _) _) _)
  have K1 := Lib.hid (show W1.heap[w.heap.size + 1]? = some (.cells #[.slice none 0 0, .slice none 0 0, .int .i64 0, .slice none 0 0] 66 (0, 0)) by rw [hW1]; exact heap_at _ _ _ (by simp))
  have K0 := Lib.hid (show W1.heap[w.heap.size]? = some (.cells #[.slice A1 op.length c1, .slice A2 st.length c2, .int .i64 last, .slice A3 out.length c3] 66 (0, 0)) by rw [hW1]; exact newA (bel_alloc (Below.refl _ _) _))
  clear hW1
  refine (HR.out _ _ (HV.out.below BW.out)).mono ?_
  rintro e w2 ⟨rfl, hb1⟩
  have B2 := Lib.hid (bThen BW.out hb1)
  have M0 := Lib.hid (heap_below K0.out hb1)
  have M1 := Lib.hid (heap_below K1.out hb1)
  clear hb1 K0 K1
  have hz1 := blk_lt M1.out
  have hz0 := blk_lt M0.out
  have d0 := cellsAt M1.out 0
  have d1 := cellsAt M1.out 1
  have d2 := cellsAt M1.out 2
  have d3 := cellsAt M1.out 3
  have dz := frozAt M1.out
  simp at d0 d1 d2 d3
  have s0 := cellsAt M0.out 0
  have s1 := cellsAt M0.out 1
  have s2 := cellsAt M0.out 2
  have s3 := cellsAt M0.out 3
  have sz := frozAt M0.out
  simp at s0 s1 s2 s3
  go_wp2_with fail
  have E := set4 M1.out (.slice A1 op.length c1) (.slice A2 st.length c2) (.int .i64 last) (.slice A3 out.length c3)
  have BE := Lib.hid (bel4 B2.out (g := w.heap.size + 1) (by omega) (.slice A1 op.length c1) (.slice A2 st.length c2) (.int .i64 last) (.slice A3 out.length c3))
  clear d0 d1 d2 d3 dz
  generalize ((((w2.setCell ⟨w.heap.size + 1, 0, none⟩ (.slice A1 op.length c1)).setCell ⟨w.heap.size + 1, 1, none⟩ (.slice A2 st.length c2)).setCell ⟨w.heap.size + 1, 2, none⟩ (.int .i64 last)).setCell ⟨w.heap.size + 1, 3, none⟩ (.slice A3 out.length c3)) = W6 at *
  have e0 := cellsAt E 0
  have e1 := cellsAt E 1
  have e2 := cellsAt E 2
  have e3 := cellsAt E 3
  simp at e0 e1 e2 e3
  exact bodyPost_ret (v := .tuple #[.agg #[.slice A1 op.length c1, .slice A2 st.length c2, .int .i64 last, .slice A3 out.length c3], .int .i64 0]) (by simp [results, Try.results41, go_sem, e0, e1, e2, e3]) rfl ⟨⟨_, rfl, HV.out.below BE.out⟩, BE.out⟩
set_option maxRecDepth 100000 in
set_option maxHeartbeats 8000000 in
theorem rcommit_big (op : List Res) (st : List Stg) (last : Int) (out : List Res) (n : Int) (hn : wfL n) (v : Value) (w : World) (hv : SinkAt w v op st last out) (h : rightS op st last out = true) (h2 : last < n) :
    Calls Try.prog 41 #[v, .int .i64 n] w fun e w' => RcTo op st out n e w' ∧ Below w.heap.size w w' := by
  have hlens := right_lens h
  have HGL := Lib.hid (gone_len h n)
  have HR := Lib.hid (fun v W hW => rsright_any op st last out v W hW true h)
  obtain ⟨vo, vs, vu, ev, hR1, hR2, hR4, hR3⟩ := hv
  have R1 := Lib.hid hR1
  have R2 := Lib.hid hR2
  have R3 := Lib.hid hR3
  have H4 := Lib.hid hR4
  have hv : SinkAt w v op st last out := ⟨vo, vs, vu, ev, hR1, hR2, hR4, hR3⟩
  clear hR1 hR2 hR3 hR4
  have HV := Lib.hid hv
  obtain ⟨A1, c1, A2, c2, A3, c3, ev2⟩ := sink_form hv
  subst ev2
  injection ev with ev
  injection ev with ev
  simp at ev
  obtain ⟨rfl, rfl, rfl⟩ := ev
  have hl4 := hn
  unfold wfL at hl4
  have HN := Lib.hid hn
  clear hv h hn
  obtain ⟨iI, hi, hi0, hi1, hi2⟩ := info_parts info_rs
  have HI := Lib.hid hi
  have HI0 := Lib.hid hi0
  have HI1 := Lib.hid hi1
  have HI2 := Lib.hid hi2
  clear hi hi0 hi1 hi2
  obtain ⟨iJ, hi, hi0, hi1, hi2⟩ := info_parts info_sg
  have HJ := Lib.hid hi
  have HJ0 := Lib.hid hi0
  have HJ1 := Lib.hid hi1
  have HJ2 := Lib.hid hi2
  clear hi hi0 hi1 hi2
  go_enter Try.func41, Try.ntmps41
  go_wp2_with fail
  obtain ⟨W1, hW1⟩ : ∃ W1, W1 = (w.alloc (.cells #[.slice A1 op.length c1, .slice A2 st.length c2, .int .i64 last, .slice A3 out.length c3] 66)).alloc (.cells #[.slice none 0 0, .slice none 0 0, .int .i64 0, .slice none 0 0] 66) := ⟨_, rfl⟩
  rw [← hW1]
  have BW := Lib.hid (show Below w.heap.size w W1 by rw [hW1]; exact bel_alloc (bel_alloc (Below.refl _ _) _) _)
  have K1 := Lib.hid (show W1.heap[w.heap.size + 1]? = some (.cells #[.slice none 0 0, .slice none 0 0, .int .i64 0, .slice none 0 0] 66 (0, 0)) by rw [hW1]; exact heap_at _ _ _ (by simp))
  have K0 := Lib.hid (show W1.heap[w.heap.size]? = some (.cells #[.slice A1 op.length c1, .slice A2 st.length c2, .int .i64 last, .slice A3 out.length c3] 66 (0, 0)) by rw [hW1]; exact newA (bel_alloc (Below.refl _ _) _))
  clear hW1
  refine (HR.out _ _ (HV.out.below BW.out)).mono ?_
  rintro e w2 ⟨rfl, hb1⟩
  have B2 := Lib.hid (bThen BW.out hb1)
  have M0 := Lib.hid (heap_below K0.out hb1)
  have M1 := Lib.hid (heap_below K1.out hb1)
  clear hb1 K0 K1
  have hz1 := blk_lt M1.out
  have hz0 := blk_lt M0.out
  have d0 := cellsAt M1.out 0
  have d1 := cellsAt M1.out 1
  have d2 := cellsAt M1.out 2
  have d3 := cellsAt M1.out 3
  have dz := frozAt M1.out
  simp at d0 d1 d2 d3
  have s0 := cellsAt M0.out 0
  have s1 := cellsAt M0.out 1
  have s2 := cellsAt M0.out 2
  have s3 := cellsAt M0.out 3
  have sz := frozAt M0.out
  simp at s0 s1 s2 s3
  go_wp2_with fail
  obtain ⟨W3, hW3⟩ : ∃ W3, W3 = w2.alloc (.cells #[.slice A1 op.length c1, .slice none 0 0, .int .i64 n, .slice none 0 0] 66) := ⟨_, rfl⟩
  rw [← hW3]
  have G3 := Lib.hid (show W3.heap[w2.heap.size]? = some (.cells #[.slice A1 op.length c1, .slice none 0 0, .int .i64 n, .slice none 0 0] 66 (0, 0)) by rw [hW3]; exact heap_at _ _ _ rfl)
  have B3 := Lib.hid (show Below w2.heap.size w2 W3 by rw [hW3]; exact bel_alloc (Below.refl _ _) _)
  have hz3 : w2.heap.size + 1 ≤ W3.heap.size := by rw [hW3]; simp
  clear hW3 d0 d1 d2 d3 s0 s1 s2 s3 dz sz
  have h2d : decide (n ≤ last) = false := by simp; omega
  try simp only [h2d]
  go_loopw [30] (fun i wr => RcOut out 66 (.slice A1 op.length c1) (.slice none 0 0) (.int .i64 n) w2 i wr) (fun i _ => out.length - (intOf i).toNat)
  case atStart => exact ⟨0, _, Nat.zero_le _, rfl, G3.out, own_base (World.ownsRow_nil _ _ _ _) hz3, B3.out⟩
  case round =>
    obtain ⟨k, u, hk, rfl, hg, hown, hbel⟩ := hrel
    have HB := Lib.hid hbel
    have HG := Lib.hid hg
    have HO := Lib.hid hown
    clear hbel hg hown
    by_cases hlt : k < out.length
    · obtain ⟨x, hi⟩ : ∃ x, out[k]? = some x := ⟨_, List.getElem?_eq_getElem hlt⟩
      obtain ⟨b', o, c', e', hc', hb, hX⟩ := (R3.out.1.below B2.out).at_ hi
      injection e' with e1 _ e3
      subst e1
      clear e3 hc'
      have q0 := (HB.out.cell (p := ⟨b', o + k * 5 + 0, none⟩) hb).trans (hX 0 _ rfl)
      have q1 := (HB.out.cell (p := ⟨b', o + k * 5 + 1, none⟩) hb).trans (hX 1 _ rfl)
      have q2 := (HB.out.cell (p := ⟨b', o + k * 5 + 2, none⟩) hb).trans (hX 2 _ rfl)
      have q3 := (HB.out.cell (p := ⟨b', o + k * 5 + 3, none⟩) hb).trans (hX 3 _ rfl)
      have q4 := (HB.out.cell (p := ⟨b', o + k * 5 + 4, none⟩) hb).trans (hX 4 _ rfl)
      have HIx := Lib.hid hi
      clear hX hi
      obtain ⟨xl, xh, xk, xn, xv⟩ := x
      simp only [Nat.add_zero] at q0 q1 q2 q3 q4
      have hzb := Nat.lt_of_lt_of_le hb HB.out.size
      go_upto_region 9 with fail
      obtain ⟨W4, hW4⟩ : ∃ W4, W4 = wr.alloc (.cells #[.int .i64 xl, .int .i64 xh, .string xk, .int .i64 xn, .int .i64 xv] 41) := ⟨_, rfl⟩
      rw [← hW4]
      have X4 := Lib.hid (show W4.heap[wr.heap.size]? = some (.cells #[.int .i64 xl, .int .i64 xh, .string xk, .int .i64 xn, .int .i64 xv] 41 (0, 0)) by rw [hW4]; exact heap_at _ _ _ rfl)
      have G4 := Lib.hid (show W4.heap[w2.heap.size]? = some (.cells #[.slice A1 op.length c1, .slice none 0 0, .int .i64 n, u] 66 (0, 0)) by rw [hW4]; exact heap_below HG.out (bel_alloc (Below.refl _ _) _))
      have O4 := Lib.hid (show W4.ownsRow (w2.heap.size + 1) 41 5 u k ((out.take k).flatMap Res.cs) by rw [hW4]; exact HO.out.alloc _)
      have B4 := Lib.hid (show Below w2.heap.size w2 W4 by rw [hW4]; exact bel_alloc HB.out _)
      clear hW4 q0 q1 q2 q3 q4
      clear HB HG HO
      obtain ⟨Au, cu, rfl⟩ := own_slice O4.out
      have xz := blk_lt X4.out
      have gz := blk_lt G4.out
      have q0 := cellsAt X4.out 0
      have q1 := cellsAt X4.out 1
      have q2 := cellsAt X4.out 2
      have q3 := cellsAt X4.out 3
      have q4 := cellsAt X4.out 4
      have g3 := cellsAt G4.out 3
      have gf := frozAt G4.out
      simp at q0 q1 q2 q3 q4 g3
      have hol := hlens.2.1
      go_wp2_with (at_builtin; refine wpList_push _ rfl _ _ 63 rfl (w2.heap.size + 1) 41 iI (.agg #[.int .i64 0, .int .i64 0, .string ⟨#[]⟩, .int .i64 0, .int .i64 0]) 5 48 Try.underlying63 HI.out HI0.out HI1.out HI2.out rfl (by decide) _ _ _ rfl O4.out _ _ rfl rfl (by intro u hu; simp at hu; rcases hu with rfl | rfl | rfl | rfl | rfl <;> rfl) (by unfold maxLen; omega) (by omega) (by omega) ?_)
      intro v5 W5 hown5 BG hblk
      obtain ⟨A5, c5, rfl⟩ := own_slice hown5
      have G5 := Lib.hid ((BG.block w2.heap.size (by omega)).trans G4.out)
      have B5 := Lib.hid (B4.out.trans (BG.mono (by omega)))
      have O5 := Lib.hid hown5
      clear hown5 BG hblk q0 q1 q2 q3 q4 g3 gf gz
      have g3 := cellsAt G5.out 3
      have gf := frozAt G5.out
      have gz := blk_lt G5.out
      simp at g3
      go_wp2_with fail
      go_roundw
      case rel =>
        refine ⟨k + 1, _, by omega, by go_num, by simpa using blk_set G5.out 3 _, ?_, B5.out.setCell (p := ⟨w2.heap.size, 3, none⟩) (Nat.le_refl _) _⟩
        rw [List.take_add_one, HIx.out, List.flatMap_append]
        exact own_set O5.out (p := ⟨w2.heap.size, 3, none⟩) (Nat.lt_succ_self _) _
      case measure => simp [intOf]; omega
    · have hkn : k = out.length := by omega
      subst hkn
      rw [List.take_length] at HO
      have G4 := Lib.hid HG.out
      have O4 := Lib.hid HO.out
      have B4 := Lib.hid HB.out
      have N0 := Lib.hid (heap_below M0.out HB.out)
      have N1 := Lib.hid (heap_below M1.out HB.out)
      clear HG HO HB
      have hy0 := blk_lt N0.out
      have s0 := cellsAt N0.out 0
      have s1 := cellsAt N0.out 1
      simp at s0 s1
      go_wp2_with fail
      go_loopw [9, 44] (fun t i wr => RcSt st out n 66 (.slice A1 op.length c1) (.int .i64 n) w2 t i wr) (fun _ i _ => st.length - (intOf i).toNat)
      case atStart => exact ⟨0, _, _, Nat.zero_le _, rfl, rfl, G4.out, own_base (World.ownsRow_nil _ (w2.heap.size + 1) _ _) (Nat.le_refl _), by unfold gone; simpa using O4.out, B4.out⟩
      case round =>
        obtain ⟨k, u1, u3, hk, rfl, rfl, hg, hown1, hown3, hbel⟩ := hrel
        have HB := Lib.hid hbel
        have HG := Lib.hid hg
        have HO := Lib.hid hown1
        have HP := Lib.hid hown3
        clear hbel hg hown1 hown3
        by_cases hlt : k < st.length
        · obtain ⟨x, hi⟩ : ∃ x, st[k]? = some x := ⟨_, List.getElem?_eq_getElem hlt⟩
          obtain ⟨b', o, c', e', hc', hb, hX⟩ := (R2.out.1.below B2.out).at_ hi
          injection e' with e1 _ e3
          subst e1
          clear e3 hc'
          have q0 := (HB.out.cell (p := ⟨b', o + k * 2 + 0, none⟩) hb).trans (hX 0 _ rfl)
          have q1 := (HB.out.cell (p := ⟨b', o + k * 2 + 1, none⟩) hb).trans (hX 1 _ rfl)
          have HIx := Lib.hid hi
          have HAS := Lib.hid (anyN_succ (n := n) hi)
          have RX := Lib.hid (((R2.out.2.1 x (List.mem_of_getElem? hi)).2).below B2.out)
          have RX0 := Lib.hid (R2.out.2.1 x (List.mem_of_getElem? hi))
          have hxl : (gone out (st.take k) n).length ≤ 20000 := HGL.out k (by omega)
          have hxl2 : ¬ n < x.n → (gone out (st.take k) n).length + x.l.length ≤ 20000 := by
            intro hh
            have := HGL.out (k + 1) (by omega)
            rw [gone_lo hi hh, List.length_append] at this
            exact this
          have hks : (keepSt (st.take k) n).length ≤ 8 := by
            have := keepSt_len (st.take k) n
            rw [List.length_take] at this
            omega
          obtain ⟨⟨Ax, cx, hxe, -, -⟩, -⟩ := RX.out
          clear hX hi
          obtain ⟨xn, xr, xl⟩ := x
          simp only [Nat.add_zero] at q0 q1 hxe hxl2
          subst hxe
          have hzb := Nat.lt_of_lt_of_le hb HB.out.size
          obtain ⟨q, hq⟩ : ∃ q, anyN st n k = q := ⟨_, rfl⟩
          rw [hq] at HAS ⊢
          clear hq
          go_upto_region 15 with fail
          obtain ⟨W4, hW4⟩ : ∃ W4, W4 = wr.alloc (.cells #[.int .i64 xn, .slice Ax xl.length cx] 85) := ⟨_, rfl⟩
          rw [← hW4]
          have X4 := Lib.hid (show W4.heap[wr.heap.size]? = some (.cells #[.int .i64 xn, .slice Ax xl.length cx] 85 (0, 0)) by rw [hW4]; exact heap_at _ _ _ rfl)
          have G4 := Lib.hid (show W4.heap[w2.heap.size]? = some (.cells #[.slice A1 op.length c1, u1, .int .i64 n, u3] 66 (0, 0)) by rw [hW4]; exact heap_below HG.out (bel_alloc (Below.refl _ _) _))
          have O4 := Lib.hid (show W4.ownsRow (w2.heap.size + 1) 85 2 u1 (keepSt (st.take k) n).length ((keepSt (st.take k) n).flatMap Stg.cs) by rw [hW4]; exact HO.out.alloc _)
          have P4 := Lib.hid (show W4.ownsRow (w2.heap.size + 1) 41 5 u3 (gone out (st.take k) n).length ((gone out (st.take k) n).flatMap Res.cs) by rw [hW4]; exact HP.out.alloc _)
          have B4 := Lib.hid (show Below w2.heap.size w2 W4 by rw [hW4]; exact bel_alloc HB.out _)
          have HOlt := fun q (hq : some q = Value.ownBlock u1) => (HO.out.lt q hq.symm).2
          have HPlt := fun q (hq : some q = Value.ownBlock u3) => (HP.out.lt q hq.symm).2
          clear hW4 q0 q1
          clear HB HG HO HP
          obtain ⟨Au, cu, rfl⟩ := own_slice O4.out
          obtain ⟨Ap, cp, rfl⟩ := own_slice P4.out
          have xz := blk_lt X4.out
          have gz := blk_lt G4.out
          have q0 := cellsAt X4.out 0
          have q1 := cellsAt X4.out 1
          have g1 := cellsAt G4.out 1
          have g3 := cellsAt G4.out 3
          have gf := frozAt G4.out
          simp at q0 q1 g1 g3
          by_cases hxn : n < xn
          · have hxn' : (xn == n) = false := by simp; omega
            cases q with
            | false =>
              go_upto_region 17 with fail
              go_wp2_with (at_builtin; refine wpList_push _ rfl _ _ 64 rfl (w2.heap.size + 1) 85 iJ (.agg #[.int .i64 0, .slice none 0 0]) 2 32 Try.underlying64 HJ.out HJ0.out HJ1.out HJ2.out rfl (by decide) _ _ _ rfl O4.out _ _ rfl rfl (by intro u hu; simp at hu; rcases hu with rfl | rfl <;> rfl) (by unfold maxLen; omega) (by omega) (by omega) ?_)
              intro v5 W5 hown5 BG hblk
              obtain ⟨A5, c5, rfl⟩ := own_slice hown5
              have G5 := Lib.hid ((BG.block w2.heap.size (by omega)).trans G4.out)
              have B5 := Lib.hid (B4.out.trans (BG.mono (by omega)))
              have O5 := Lib.hid hown5
              have P5 := Lib.hid (own_keep P4.out (fun j hj => hblk j (P4.out.lt j hj).2 (fun e => by rcases own_ne O4.out P4.out (by decide) with h | h; (rw [h] at e; cases e); exact h (e.trans hj.symm))))
              clear hown5 BG hblk q0 q1 g1 g3 gf gz
              have g1 := cellsAt G5.out 1
              have gf := frozAt G5.out
              have gz := blk_lt G5.out
              simp at g1
              go_wp2_with fail
              go_roundw
              case rel =>
                refine ⟨k + 1, _, _, by omega, by go_num, by rw [HAS.out]; simp [hxn'], by simpa using blk_set G5.out 1 _, ?_, ?_, B5.out.setCell (p := ⟨w2.heap.size, 1, none⟩) (Nat.le_refl _) _⟩
                · rw [keepSt_hi HIx.out hxn, List.length_append, List.flatMap_append]
                  exact own_set O5.out (p := ⟨w2.heap.size, 1, none⟩) (Nat.lt_succ_self _) _
                · rw [gone_hi HIx.out hxn]
                  exact own_set P5.out (p := ⟨w2.heap.size, 1, none⟩) (Nat.lt_succ_self _) _
              case measure => simp [intOf]; omega
            | true =>
              go_upto_region 17 with fail
              go_wp2_with (at_builtin; refine wpList_push _ rfl _ _ 64 rfl (w2.heap.size + 1) 85 iJ (.agg #[.int .i64 0, .slice none 0 0]) 2 32 Try.underlying64 HJ.out HJ0.out HJ1.out HJ2.out rfl (by decide) _ _ _ rfl O4.out _ _ rfl rfl (by intro u hu; simp at hu; rcases hu with rfl | rfl <;> rfl) (by unfold maxLen; omega) (by omega) (by omega) ?_)
              intro v5 W5 hown5 BG hblk
              obtain ⟨A5, c5, rfl⟩ := own_slice hown5
              have G5 := Lib.hid ((BG.block w2.heap.size (by omega)).trans G4.out)
              have B5 := Lib.hid (B4.out.trans (BG.mono (by omega)))
              have O5 := Lib.hid hown5
              have P5 := Lib.hid (own_keep P4.out (fun j hj => hblk j (P4.out.lt j hj).2 (fun e => by rcases own_ne O4.out P4.out (by decide) with h | h; (rw [h] at e; cases e); exact h (e.trans hj.symm))))
              clear hown5 BG hblk q0 q1 g1 g3 gf gz
              have g1 := cellsAt G5.out 1
              have gf := frozAt G5.out
              have gz := blk_lt G5.out
              simp at g1
              go_wp2_with fail
              go_roundw
              case rel =>
                refine ⟨k + 1, _, _, by omega, by go_num, by rw [HAS.out]; simp [hxn'], by simpa using blk_set G5.out 1 _, ?_, ?_, B5.out.setCell (p := ⟨w2.heap.size, 1, none⟩) (Nat.le_refl _) _⟩
                · rw [keepSt_hi HIx.out hxn, List.length_append, List.flatMap_append]
                  exact own_set O5.out (p := ⟨w2.heap.size, 1, none⟩) (Nat.lt_succ_self _) _
                · rw [gone_hi HIx.out hxn]
                  exact own_set P5.out (p := ⟨w2.heap.size, 1, none⟩) (Nat.lt_succ_self _) _
              case measure => simp [intOf]; omega
          · cases q with
            | false =>
              go_wp2_with fail
              have hxl3 := hxl2 (by simpa using hxn)
              go_loopw [68] (fun i wr => RcIn xl (gone out (st.take k) n) (keepSt (st.take k) n) 66 (.slice A1 op.length c1) (.slice Au (keepSt (st.take k) n).length cu) (.int .i64 n) w2 i wr) (fun i _ => xl.length - (intOf i).toNat)
              case atStart => exact ⟨0, _, Nat.zero_le _, rfl, G4.out, O4.out, by simpa using P4.out, B4.out⟩
              case round =>
                obtain ⟨j, u3, hj, rfl, hg, hown1, hown3, hbel⟩ := hrel
                have HB := Lib.hid hbel
                have HG := Lib.hid hg
                have HO := Lib.hid hown1
                have HP := Lib.hid hown3
                clear hbel hg hown1 hown3
                by_cases hltj : j < xl.length
                · obtain ⟨y, hi⟩ : ∃ y, xl[j]? = some y := ⟨_, List.getElem?_eq_getElem hltj⟩
                  obtain ⟨b2', o2, c2', e', hc', hb2, hX⟩ := RX.out.1.at_ hi
                  injection e' with e1 _ e3
                  subst e1
                  clear e3 hc'
                  have y0 := (HB.out.cell (p := ⟨b2', o2 + j * 5 + 0, none⟩) hb2).trans (hX 0 _ rfl)
                  have y1 := (HB.out.cell (p := ⟨b2', o2 + j * 5 + 1, none⟩) hb2).trans (hX 1 _ rfl)
                  have y2 := (HB.out.cell (p := ⟨b2', o2 + j * 5 + 2, none⟩) hb2).trans (hX 2 _ rfl)
                  have y3 := (HB.out.cell (p := ⟨b2', o2 + j * 5 + 3, none⟩) hb2).trans (hX 3 _ rfl)
                  have y4 := (HB.out.cell (p := ⟨b2', o2 + j * 5 + 4, none⟩) hb2).trans (hX 4 _ rfl)
                  have HIy := Lib.hid hi
                  clear hX hi
                  obtain ⟨yl, yh, yk, yn, yv⟩ := y
                  simp only [Nat.add_zero] at y0 y1 y2 y3 y4
                  have hzb2 := Nat.lt_of_lt_of_le hb2 HB.out.size
                  go_upto_region 21 with fail
                  obtain ⟨W5, hW5⟩ : ∃ W5, W5 = wr.alloc (.cells #[.int .i64 yl, .int .i64 yh, .string yk, .int .i64 yn, .int .i64 yv] 41) := ⟨_, rfl⟩
                  rw [← hW5]
                  have X5 := Lib.hid (show W5.heap[wr.heap.size]? = some (.cells #[.int .i64 yl, .int .i64 yh, .string yk, .int .i64 yn, .int .i64 yv] 41 (0, 0)) by rw [hW5]; exact heap_at _ _ _ rfl)
                  have G5 := Lib.hid (show W5.heap[w2.heap.size]? = some (.cells #[.slice A1 op.length c1, .slice Au (keepSt (st.take k) n).length cu, .int .i64 n, u3] 66 (0, 0)) by rw [hW5]; exact heap_below HG.out (bel_alloc (Below.refl _ _) _))
                  have O5 := Lib.hid (show W5.ownsRow (w2.heap.size + 1) 85 2 (.slice Au (keepSt (st.take k) n).length cu) (keepSt (st.take k) n).length ((keepSt (st.take k) n).flatMap Stg.cs) by rw [hW5]; exact HO.out.alloc _)
                  have P5 := Lib.hid (show W5.ownsRow (w2.heap.size + 1) 41 5 u3 ((gone out (st.take k) n).length + j) ((gone out (st.take k) n ++ xl.take j).flatMap Res.cs) by rw [hW5]; exact HP.out.alloc _)
                  have B5 := Lib.hid (show Below w2.heap.size w2 W5 by rw [hW5]; exact bel_alloc HB.out _)
                  clear hW5 y0 y1 y2 y3 y4 HB HG HO HP
                  clear q0 q1 g1 g3 gf gz X4 xz G4 O4 P4 B4
                  obtain ⟨Aq, cq, rfl⟩ := own_slice P5.out
                  have xz := blk_lt X5.out
                  have gz := blk_lt G5.out
                  have y0 := cellsAt X5.out 0
                  have y1 := cellsAt X5.out 1
                  have y2 := cellsAt X5.out 2
                  have y3 := cellsAt X5.out 3
                  have y4 := cellsAt X5.out 4
                  have g3 := cellsAt G5.out 3
                  have gf := frozAt G5.out
                  simp at y0 y1 y2 y3 y4 g3
                  go_wp2_with (at_builtin; refine wpList_push _ rfl _ _ 63 rfl (w2.heap.size + 1) 41 iI (.agg #[.int .i64 0, .int .i64 0, .string ⟨#[]⟩, .int .i64 0, .int .i64 0]) 5 48 Try.underlying63 HI.out HI0.out HI1.out HI2.out rfl (by decide) _ _ _ rfl P5.out _ _ rfl rfl (by intro u hu; simp at hu; rcases hu with rfl | rfl | rfl | rfl | rfl <;> rfl) (by unfold maxLen; omega) (by omega) (by omega) ?_)
                  intro v6 W6 hown6 BG hblk
                  obtain ⟨A6, c6, rfl⟩ := own_slice hown6
                  have G6 := Lib.hid ((BG.block w2.heap.size (by omega)).trans G5.out)
                  have B6 := Lib.hid (B5.out.trans (BG.mono (by omega)))
                  have P6 := Lib.hid hown6
                  have O6 := Lib.hid (own_keep O5.out (fun j hj => hblk j (O5.out.lt j hj).2 (fun e => by rcases own_ne P5.out O5.out (by decide) with h | h; (rw [h] at e; cases e); exact h (e.trans hj.symm))))
                  clear hown6 BG hblk y0 y1 y2 y3 y4 g3 gf gz
                  have g3 := cellsAt G6.out 3
                  have gf := frozAt G6.out
                  have gz := blk_lt G6.out
                  simp at g3
                  go_wp2_with fail
                  go_roundw
                  case rel =>
                    refine ⟨j + 1, _, by omega, by go_num, by simpa using blk_set G6.out 3 _, own_set O6.out (p := ⟨w2.heap.size, 3, none⟩) (Nat.lt_succ_self _) _, ?_, B6.out.setCell (p := ⟨w2.heap.size, 3, none⟩) (Nat.le_refl _) _⟩
                    rw [List.take_add_one, HIy.out, List.flatMap_append, List.flatMap_append]
                    exact own_set P6.out (p := ⟨w2.heap.size, 3, none⟩) (Nat.lt_succ_self _) _
                  case measure => simp [intOf]; omega
                · have hjn : j = xl.length := by omega
                  subst hjn
                  rw [List.take_length] at HP
                  go_wp2_with fail
                  go_roundw
                  case rel =>
                    refine ⟨k + 1, _, _, by omega, by go_num, by rw [HAS.out]; rfl, HG.out, ?_, ?_, HB.out⟩
                    · rw [keepSt_lo HIx.out (by simpa using hxn)]
                      exact HO.out
                    · rw [gone_lo HIx.out (by simpa using hxn), List.length_append]
                      exact HP.out
                  case measure => simp [intOf]; omega
            | true =>
              go_wp2_with fail
              have hxl3 := hxl2 (by simpa using hxn)
              go_loopw [68] (fun i wr => RcIn xl (gone out (st.take k) n) (keepSt (st.take k) n) 66 (.slice A1 op.length c1) (.slice Au (keepSt (st.take k) n).length cu) (.int .i64 n) w2 i wr) (fun i _ => xl.length - (intOf i).toNat)
              case atStart => exact ⟨0, _, Nat.zero_le _, rfl, G4.out, O4.out, by simpa using P4.out, B4.out⟩
              case round =>
                obtain ⟨j, u3, hj, rfl, hg, hown1, hown3, hbel⟩ := hrel
                have HB := Lib.hid hbel
                have HG := Lib.hid hg
                have HO := Lib.hid hown1
                have HP := Lib.hid hown3
                clear hbel hg hown1 hown3
                by_cases hltj : j < xl.length
                · obtain ⟨y, hi⟩ : ∃ y, xl[j]? = some y := ⟨_, List.getElem?_eq_getElem hltj⟩
                  obtain ⟨b2', o2, c2', e', hc', hb2, hX⟩ := RX.out.1.at_ hi
                  injection e' with e1 _ e3
                  subst e1
                  clear e3 hc'
                  have y0 := (HB.out.cell (p := ⟨b2', o2 + j * 5 + 0, none⟩) hb2).trans (hX 0 _ rfl)
                  have y1 := (HB.out.cell (p := ⟨b2', o2 + j * 5 + 1, none⟩) hb2).trans (hX 1 _ rfl)
                  have y2 := (HB.out.cell (p := ⟨b2', o2 + j * 5 + 2, none⟩) hb2).trans (hX 2 _ rfl)
                  have y3 := (HB.out.cell (p := ⟨b2', o2 + j * 5 + 3, none⟩) hb2).trans (hX 3 _ rfl)
                  have y4 := (HB.out.cell (p := ⟨b2', o2 + j * 5 + 4, none⟩) hb2).trans (hX 4 _ rfl)
                  have HIy := Lib.hid hi
                  clear hX hi
                  obtain ⟨yl, yh, yk, yn, yv⟩ := y
                  simp only [Nat.add_zero] at y0 y1 y2 y3 y4
                  have hzb2 := Nat.lt_of_lt_of_le hb2 HB.out.size
                  go_upto_region 21 with fail
                  obtain ⟨W5, hW5⟩ : ∃ W5, W5 = wr.alloc (.cells #[.int .i64 yl, .int .i64 yh, .string yk, .int .i64 yn, .int .i64 yv] 41) := ⟨_, rfl⟩
                  rw [← hW5]
                  have X5 := Lib.hid (show W5.heap[wr.heap.size]? = some (.cells #[.int .i64 yl, .int .i64 yh, .string yk, .int .i64 yn, .int .i64 yv] 41 (0, 0)) by rw [hW5]; exact heap_at _ _ _ rfl)
                  have G5 := Lib.hid (show W5.heap[w2.heap.size]? = some (.cells #[.slice A1 op.length c1, .slice Au (keepSt (st.take k) n).length cu, .int .i64 n, u3] 66 (0, 0)) by rw [hW5]; exact heap_below HG.out (bel_alloc (Below.refl _ _) _))
                  have O5 := Lib.hid (show W5.ownsRow (w2.heap.size + 1) 85 2 (.slice Au (keepSt (st.take k) n).length cu) (keepSt (st.take k) n).length ((keepSt (st.take k) n).flatMap Stg.cs) by rw [hW5]; exact HO.out.alloc _)
                  have P5 := Lib.hid (show W5.ownsRow (w2.heap.size + 1) 41 5 u3 ((gone out (st.take k) n).length + j) ((gone out (st.take k) n ++ xl.take j).flatMap Res.cs) by rw [hW5]; exact HP.out.alloc _)
                  have B5 := Lib.hid (show Below w2.heap.size w2 W5 by rw [hW5]; exact bel_alloc HB.out _)
                  clear hW5 y0 y1 y2 y3 y4 HB HG HO HP
                  clear q0 q1 g1 g3 gf gz X4 xz G4 O4 P4 B4
                  obtain ⟨Aq, cq, rfl⟩ := own_slice P5.out
                  have xz := blk_lt X5.out
                  have gz := blk_lt G5.out
                  have y0 := cellsAt X5.out 0
                  have y1 := cellsAt X5.out 1
                  have y2 := cellsAt X5.out 2
                  have y3 := cellsAt X5.out 3
                  have y4 := cellsAt X5.out 4
                  have g3 := cellsAt G5.out 3
                  have gf := frozAt G5.out
                  simp at y0 y1 y2 y3 y4 g3
                  go_wp2_with (at_builtin; refine wpList_push _ rfl _ _ 63 rfl (w2.heap.size + 1) 41 iI (.agg #[.int .i64 0, .int .i64 0, .string ⟨#[]⟩, .int .i64 0, .int .i64 0]) 5 48 Try.underlying63 HI.out HI0.out HI1.out HI2.out rfl (by decide) _ _ _ rfl P5.out _ _ rfl rfl (by intro u hu; simp at hu; rcases hu with rfl | rfl | rfl | rfl | rfl <;> rfl) (by unfold maxLen; omega) (by omega) (by omega) ?_)
                  intro v6 W6 hown6 BG hblk
                  obtain ⟨A6, c6, rfl⟩ := own_slice hown6
                  have G6 := Lib.hid ((BG.block w2.heap.size (by omega)).trans G5.out)
                  have B6 := Lib.hid (B5.out.trans (BG.mono (by omega)))
                  have P6 := Lib.hid hown6
                  have O6 := Lib.hid (own_keep O5.out (fun j hj => hblk j (O5.out.lt j hj).2 (fun e => by rcases own_ne P5.out O5.out (by decide) with h | h; (rw [h] at e; cases e); exact h (e.trans hj.symm))))
                  clear hown6 BG hblk y0 y1 y2 y3 y4 g3 gf gz
                  have g3 := cellsAt G6.out 3
                  have gf := frozAt G6.out
                  have gz := blk_lt G6.out
                  simp at g3
                  go_wp2_with fail
                  go_roundw
                  case rel =>
                    refine ⟨j + 1, _, by omega, by go_num, by simpa using blk_set G6.out 3 _, own_set O6.out (p := ⟨w2.heap.size, 3, none⟩) (Nat.lt_succ_self _) _, ?_, B6.out.setCell (p := ⟨w2.heap.size, 3, none⟩) (Nat.le_refl _) _⟩
                    rw [List.take_add_one, HIy.out, List.flatMap_append, List.flatMap_append]
                    exact own_set P6.out (p := ⟨w2.heap.size, 3, none⟩) (Nat.lt_succ_self _) _
                  case measure => simp [intOf]; omega
                · have hjn : j = xl.length := by omega
                  subst hjn
                  rw [List.take_length] at HP
                  go_wp2_with fail
                  go_roundw
                  case rel =>
                    refine ⟨k + 1, _, _, by omega, by go_num, by rw [HAS.out]; rfl, HG.out, ?_, ?_, HB.out⟩
                    · rw [keepSt_lo HIx.out (by simpa using hxn)]
                      exact HO.out
                    · rw [gone_lo HIx.out (by simpa using hxn), List.length_append]
                      exact HP.out
                  case measure => simp [intOf]; omega
        · have hkn : k = st.length := by omega
          subst hkn
          rw [List.take_length] at HO HP
          have N0r := Lib.hid (heap_below M0.out HB.out)
          have N1r := Lib.hid (heap_below M1.out HB.out)
          have hany : anyN st n st.length = st.any (fun x => x.n == n) := by unfold anyN; rw [List.take_length]
          rw [hany]
          obtain ⟨q, hq⟩ : ∃ q, st.any (fun x => x.n == n) = q := ⟨_, rfl⟩
          rw [hq]
          have HQ := Lib.hid hq
          clear hq hany
          obtain ⟨Au, cu, rfl⟩ := own_slice HO.out
          obtain ⟨Ap, cp, rfl⟩ := own_slice HP.out
          have hz1 := blk_lt N1r.out
          have gz := blk_lt HG.out
          have d0 := cellsAt N1r.out 0
          have d1 := cellsAt N1r.out 1
          have d2 := cellsAt N1r.out 2
          have d3 := cellsAt N1r.out 3
          have dz := frozAt N1r.out
          have g0 := cellsAt HG.out 0
          have g1 := cellsAt HG.out 1
          have g2 := cellsAt HG.out 2
          have g3 := cellsAt HG.out 3
          simp at d0 d1 d2 d3 g0 g1 g2 g3
          cases q with
          | false =>
            go_wp2_with fail
            have E := set4 N1r.out (.slice none 0 0) (.slice none 0 0) (.int .i64 0) (.slice none 0 0)
            have BE := Lib.hid (bel4 (bThen B2.out HB.out) (g := w.heap.size + 1) (by omega) (.slice none 0 0) (.slice none 0 0) (.int .i64 0) (.slice none 0 0))
            clear d0 d1 d2 d3 dz
            generalize ((((wr.setCell ⟨w.heap.size + 1, 0, none⟩ (.slice none 0 0)).setCell ⟨w.heap.size + 1, 1, none⟩ (.slice none 0 0)).setCell ⟨w.heap.size + 1, 2, none⟩ (.int .i64 0)).setCell ⟨w.heap.size + 1, 3, none⟩ (.slice none 0 0)) = W6 at *
            have e0 := cellsAt E 0
            have e1 := cellsAt E 1
            have e2 := cellsAt E 2
            have e3 := cellsAt E 3
            simp at e0 e1 e2 e3
            exact bodyPost_ret (v := .tuple #[.agg #[.slice none 0 0, .slice none 0 0, .int .i64 0, .slice none 0 0], .int .i64 190]) (by simp [results, Try.results41, go_sem, e0, e1, e2, e3]) rfl ⟨⟨fun h => (by rw [HQ.out] at h; cases h), fun _ => rfl⟩, BE.out⟩
          | true =>
            go_wp2_with fail
            have E := set4 N1r.out (.slice A1 op.length c1) (.slice Au (keepSt st n).length cu) (.int .i64 n) (.slice Ap (gone out st n).length cp)
            have BE := Lib.hid (bel4 (bThen B2.out HB.out) (g := w.heap.size + 1) (by omega) (.slice A1 op.length c1) (.slice Au (keepSt st n).length cu) (.int .i64 n) (.slice Ap (gone out st n).length cp))
            have hw4 : w.heap.size + 1 < w2.heap.size + 1 := by have := blk_lt M1.out; omega
            have OE := own_set (own_set (own_set (own_set HO.out (p := ⟨w.heap.size + 1, 0, none⟩) hw4 (.slice A1 op.length c1)) (p := ⟨w.heap.size + 1, 1, none⟩) hw4 (.slice Au (keepSt st n).length cu)) (p := ⟨w.heap.size + 1, 2, none⟩) hw4 (.int .i64 n)) (p := ⟨w.heap.size + 1, 3, none⟩) hw4 (.slice Ap (gone out st n).length cp)
            have PE := own_set (own_set (own_set (own_set HP.out (p := ⟨w.heap.size + 1, 0, none⟩) hw4 (.slice A1 op.length c1)) (p := ⟨w.heap.size + 1, 1, none⟩) hw4 (.slice Au (keepSt st n).length cu)) (p := ⟨w.heap.size + 1, 2, none⟩) hw4 (.int .i64 n)) (p := ⟨w.heap.size + 1, 3, none⟩) hw4 (.slice Ap (gone out st n).length cp)
            clear d0 d1 d2 d3 dz
            generalize ((((wr.setCell ⟨w.heap.size + 1, 0, none⟩ (.slice A1 op.length c1)).setCell ⟨w.heap.size + 1, 1, none⟩ (.slice Au (keepSt st n).length cu)).setCell ⟨w.heap.size + 1, 2, none⟩ (.int .i64 n)).setCell ⟨w.heap.size + 1, 3, none⟩ (.slice Ap (gone out st n).length cp)) = W6 at *
            have e0 := cellsAt E 0
            have e1 := cellsAt E 1
            have e2 := cellsAt E 2
            have e3 := cellsAt E 3
            simp at e0 e1 e2 e3
            refine bodyPost_ret (v := .tuple #[.agg #[.slice A1 op.length c1, .slice Au (keepSt st n).length cu, .int .i64 n, .slice Ap (gone out st n).length cp], .int .i64 0]) (by simp [results, Try.results41, go_sem, e0, e1, e2, e3]) rfl ⟨⟨fun _ => ?_, fun h => (by rw [HQ.out] at h; cases h)⟩, BE.out⟩
            refine ⟨_, rfl, _, _, _, rfl, R1.out.below BE.out, ⟨Row.of_own Stg.cs_len OE rfl, fun x hx => (R2.out.2.1 x ((List.mem_filter.1 hx).1)).below BE.out, by have := keepSt_len st n; unfold maxLen; omega⟩, HN.out, ⟨Row.of_own Res.cs_len PE rfl, ?_, by have := HGL.out st.length (Nat.le_refl _); rw [List.take_length] at this; unfold maxLen; omega⟩⟩
            intro x hx
            unfold gone at hx
            rcases List.mem_append.1 hx with h | h
            · exact R3.out.2.1 x h
            · obtain ⟨y, hy, hxy⟩ := List.mem_flatMap.1 h
              exact (R2.out.2.1 y ((List.mem_filter.1 hy).1)).2.2.1 x hxy
end Go.Proofs.Ytenpgkkefielfaa
