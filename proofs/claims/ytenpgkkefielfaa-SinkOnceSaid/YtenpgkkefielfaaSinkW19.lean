/-
  WALKS of layer 19: the program's Commit.
-/
import Derived.Test.YtenpgkkefielfaaSinkW20
import Derived.Deep.RegionLaw
import Derived.Deep.DeepCutAuto
import Derived.Laws.AppendOwnNone
set_option linter.unusedVariables false
set_option linter.unusedSimpArgs false
namespace Go.Proofs.Ytenpgkkefielfaa
open Go.RowKit

set_option maxRecDepth 100000 in
set_option maxHeartbeats 4000000 in
theorem scommit_no (op : List Res) (st : List Stg) (last : Int) (out : List Res) (n : Int) (hn : wfL n) (v : Value) (w : World) (hv : SinkAt w v op st last out) (h : rightS op st last out = false) :
    Calls Try.prog 38 #[v, .int .i64 n] w fun e w' => e = .returned (.tuple #[zS, .int .i64 1]) ∧ Below w.heap.size w w' := by
  have HR := Lib.hid (fun v W hW => sright_any op st last out v W hW false h)
  obtain ⟨vo, vs, vu, ev, hR1, hR2, hR4, hR3⟩ := hv
  have R1 := Lib.hid hR1
  have R2 := Lib.hid hR2
  have R3 := Lib.hid hR3
  have H4 := Lib.hid hR4
  have hv : SinkAt w v op st last out := ⟨vo, vs, vu, ev, hR1, hR2, hR4, hR3⟩
  clear hR1 hR2 hR3 hR4
  have HV := Lib.hid hv
  obtain ⟨A1, c1, A2, c2, A3, c3, ev2⟩ := sink_form hv
  subst ev2
  injection ev with ev
  injection ev with ev
  simp at ev
  obtain ⟨rfl, rfl, rfl⟩ := ev
  have hl4 := hn
  unfold wfL at hl4
  have HN := Lib.hid hn
  clear hv h hn
  unfold zS
  go_enter Try.func38, Try.ntmps38
  go_wp2_with fail
  go_step3
  go_wp2_with fail
  obtain ⟨W1, hW1⟩ : ∃ W1, W1 = ((w.alloc (.cells #[.slice A1 op.length c1, .slice A2 st.length c2, .int .i64 last, .slice A3 out.length c3] 66)).alloc (.cells #[.int .i64 n] 3)).alloc (.cells #[.slice none 0 0, .slice none 0 0, .int .i64 0, .slice none 0 0] 66) := ⟨_, rfl⟩
  rw [← hW1]
  have BW := Lib.hid (show Below w.heap.size w W1 by rw [hW1]; exact bel_alloc (bel_alloc (bel_alloc (Below.refl _ _) _) _) _)
  have K2 := Lib.hid (show W1.heap[w.heap.size + 1 + 1]? = some (.cells #[.slice none 0 0, .slice none 0 0, .int .i64 0, .slice none 0 0] 66 (0, 0)) by rw [hW1]; exact heap_at _ _ _ (by simp))
  have K1 := Lib.hid (show W1.heap[w.heap.size + 1]? = some (.cells #[.int .i64 n] 3 (0, 0)) by rw [hW1]; exact heap_below (heap_at (w.alloc _) _ (w.heap.size + 1) (by simp)) (bel_alloc (Below.refl _ _) _))
  have K0 := Lib.hid (show W1.heap[w.heap.size]? = some (.cells #[.slice A1 op.length c1, .slice A2 st.length c2, .int .i64 last, .slice A3 out.length c3] 66 (0, 0)) by rw [hW1]; exact newA (bel_alloc (bel_alloc (Below.refl _ _) _) _))
  clear hW1
  refine (HR.out _ _ (HV.out.below BW.out)).mono ?_
  rintro e w1 ⟨rfl, hb1⟩
  have B1 := Lib.hid (bThen BW.out hb1)
  have L0 := Lib.hid (heap_below K0.out hb1)
  have L1 := Lib.hid (heap_below K1.out hb1)
  have L2 := Lib.hid (heap_below K2.out hb1)
  clear hb1 K0 K1 K2
  have hz2 := blk_lt L2.out
  have hz1 := blk_lt L1.out
  have hz0 := blk_lt L0.out
  have d0 := cellsAt L2.out 0
  have d1 := cellsAt L2.out 1
  have d2 := cellsAt L2.out 2
  have d3 := cellsAt L2.out 3
  have dz := frozAt L2.out
  simp at d0 d1 d2 d3
  have s0 := cellsAt L0.out 0
  have s1 := cellsAt L0.out 1
  have s2 := cellsAt L0.out 2
  have s3 := cellsAt L0.out 3
  have sz := frozAt L0.out
  simp at s0 s1 s2 s3
  have m0 := cellsAt L1.out 0
  have mz := frozAt L1.out
  simp at m0
  go_wp2_with fail
  have E := set4 L2.out (.slice none 0 0) (.slice none 0 0) (.int .i64 0) (.slice none 0 0)
  have BE := Lib.hid (bel4 B1.out (g := w.heap.size + 1 + 1) (by omega) (.slice none 0 0) (.slice none 0 0) (.int .i64 0) (.slice none 0 0))
  clear d0 d1 d2 d3 dz
  generalize ((((w1.setCell ⟨w.heap.size + 1 + 1, 0, none⟩ (.slice none 0 0)).setCell ⟨w.heap.size + 1 + 1, 1, none⟩ (.slice none 0 0)).setCell ⟨w.heap.size + 1 + 1, 2, none⟩ (.int .i64 0)).setCell ⟨w.heap.size + 1 + 1, 3, none⟩ (.slice none 0 0)) = W6 at *
  have e0 := cellsAt E 0
  have e1 := cellsAt E 1
  have e2 := cellsAt E 2
  have e3 := cellsAt E 3
  simp at e0 e1 e2 e3
  rw [Exit.noGoto_ret]
  exact bodyPost_ret (v := .tuple #[.agg #[.slice none 0 0, .slice none 0 0, .int .i64 0, .slice none 0 0], .int .i64 1]) (by simp [results, Try.results38, go_sem, e0, e1, e2, e3]) rfl ⟨rfl, BE.out⟩
set_option maxRecDepth 100000 in
set_option maxHeartbeats 4000000 in
theorem scommit_same (op : List Res) (st : List Stg) (last : Int) (out : List Res) (n : Int) (hn : wfL n) (v : Value) (w : World) (hv : SinkAt w v op st last out) (h : rightS op st last out = true) (h2 : n ≤ last) :
    Calls Try.prog 38 #[v, .int .i64 n] w fun e w' => (∃ v', e = .returned (.tuple #[v', .int .i64 0]) ∧ SinkAt w' v' op st last out ∧ v' = v) ∧ Below w.heap.size w w' := by
  have HR := Lib.hid (fun v W hW => sright_any op st last out v W hW true h)
  obtain ⟨vo, vs, vu, ev, hR1, hR2, hR4, hR3⟩ := hv
  have R1 := Lib.hid hR1
  have R2 := Lib.hid hR2
  have R3 := Lib.hid hR3
  have H4 := Lib.hid hR4
  have hv : SinkAt w v op st last out := ⟨vo, vs, vu, ev, hR1, hR2, hR4, hR3⟩
  clear hR1 hR2 hR3 hR4
  have HV := Lib.hid hv
  obtain ⟨A1, c1, A2, c2, A3, c3, ev2⟩ := sink_form hv
  subst ev2
  injection ev with ev
  injection ev with ev
  simp at ev
  obtain ⟨rfl, rfl, rfl⟩ := ev
  have hl4 := hn
  unfold wfL at hl4
  have HN := Lib.hid hn
  clear hv h hn
  go_enter Try.func38, Try.ntmps38
  go_wp2_with fail
  go_step3
  go_wp2_with fail
  obtain ⟨W1, hW1⟩ : ∃ W1, W1 = ((w.alloc (.cells #[.slice A1 op.length c1, .slice A2 st.length c2, .int .i64 last, .slice A3 out.length c3] 66)).alloc (.cells #[.int .i64 n] 3)).alloc (.cells #[.slice none 0 0, .slice none 0 0, .int .i64 0, .slice none 0 0] 66) := ⟨_, rfl⟩
  rw [← hW1]
  have BW := Lib.hid (show Below w.heap.size w W1 by rw [hW1]; exact bel_alloc (bel_alloc (bel_alloc (Below.refl _ _) _) _) _)
  have K2 := Lib.hid (show W1.heap[w.heap.size + 1 + 1]? = some (.cells #[.slice none 0 0, .slice none 0 0, .int .i64 0, .slice none 0 0] 66 (0, 0)) by rw [hW1]; exact heap_at _ _ _ (by simp))
  have K1 := Lib.hid (show W1.heap[w.heap.size + 1]? = some (.cells #[.int .i64 n] 3 (0, 0)) by rw [hW1]; exact heap_below (heap_at (w.alloc _) _ (w.heap.size + 1) (by simp)) (bel_alloc (Below.refl _ _) _))
  have K0 := Lib.hid (show W1.heap[w.heap.size]? = some (.cells #[.slice A1 op.length c1, .slice A2 st.length c2, .int .i64 last, .slice A3 out.length c3] 66 (0, 0)) by rw [hW1]; exact newA (bel_alloc (bel_alloc (Below.refl _ _) _) _))
  clear hW1
  refine (HR.out _ _ (HV.out.below BW.out)).mono ?_
  rintro e w1 ⟨rfl, hb1⟩
  have B1 := Lib.hid (bThen BW.out hb1)
  have L0 := Lib.hid (heap_below K0.out hb1)
  have L1 := Lib.hid (heap_below K1.out hb1)
  have L2 := Lib.hid (heap_below K2.out hb1)
  clear hb1 K0 K1 K2
  have hz2 := blk_lt L2.out
  have hz1 := blk_lt L1.out
  have hz0 := blk_lt L0.out
  have d0 := cellsAt L2.out 0
  have d1 := cellsAt L2.out 1
  have d2 := cellsAt L2.out 2
  have d3 := cellsAt L2.out 3
  have dz := frozAt L2.out
  simp at d0 d1 d2 d3
  have s0 := cellsAt L0.out 0
  have s1 := cellsAt L0.out 1
  have s2 := cellsAt L0.out 2
  have s3 := cellsAt L0.out 3
  have sz := frozAt L0.out
  simp at s0 s1 s2 s3
  have m0 := cellsAt L1.out 0
  have mz := frozAt L1.out
  simp at m0
  go_wp2_with fail
  have E := set4 L2.out (.slice A1 op.length c1) (.slice A2 st.length c2) (.int .i64 last) (.slice A3 out.length c3)
  have BE := Lib.hid (bel4 B1.out (g := w.heap.size + 1 + 1) (by omega) (.slice A1 op.length c1) (.slice A2 st.length c2) (.int .i64 last) (.slice A3 out.length c3))
  clear d0 d1 d2 d3 dz
  generalize ((((w1.setCell ⟨w.heap.size + 1 + 1, 0, none⟩ (.slice A1 op.length c1)).setCell ⟨w.heap.size + 1 + 1, 1, none⟩ (.slice A2 st.length c2)).setCell ⟨w.heap.size + 1 + 1, 2, none⟩ (.int .i64 last)).setCell ⟨w.heap.size + 1 + 1, 3, none⟩ (.slice A3 out.length c3)) = W6 at *
  have e0 := cellsAt E 0
  have e1 := cellsAt E 1
  have e2 := cellsAt E 2
  have e3 := cellsAt E 3
  simp at e0 e1 e2 e3
  rw [Exit.noGoto_ret]
  exact bodyPost_ret (v := .tuple #[.agg #[.slice A1 op.length c1, .slice A2 st.length c2, .int .i64 last, .slice A3 out.length c3], .int .i64 0]) (by simp [results, Try.results38, go_sem, e0, e1, e2, e3]) rfl ⟨⟨_, rfl, HV.out.below BE.out, rfl⟩, BE.out⟩
set_option maxRecDepth 100000 in
set_option maxHeartbeats 4000000 in
theorem scommit_gone (op : List Res) (st : List Stg) (last : Int) (out : List Res) (n : Int) (hn : wfL n) (v : Value) (w : World) (hv : SinkAt w v op st last out) (h : rightS op st last out = true) (h2 : last < n) (h3 : st.any (fun x => x.n == n) = false) :
    Calls Try.prog 38 #[v, .int .i64 n] w fun e w' => e = .returned (.tuple #[zS, .int .i64 190]) ∧ Below w.heap.size w w' := by
  have HR := Lib.hid (fun v W hW => sright_any op st last out v W hW true h)
  obtain ⟨vo, vs, vu, ev, hR1, hR2, hR4, hR3⟩ := hv
  have R1 := Lib.hid hR1
  have R2 := Lib.hid hR2
  have R3 := Lib.hid hR3
  have H4 := Lib.hid hR4
  have hv : SinkAt w v op st last out := ⟨vo, vs, vu, ev, hR1, hR2, hR4, hR3⟩
  clear hR1 hR2 hR3 hR4
  have HV := Lib.hid hv
  obtain ⟨A1, c1, A2, c2, A3, c3, ev2⟩ := sink_form hv
  subst ev2
  injection ev with ev
  injection ev with ev
  simp at ev
  obtain ⟨rfl, rfl, rfl⟩ := ev
  have hl4 := hn
  unfold wfL at hl4
  have HN := Lib.hid hn
  clear hv h hn
  unfold zS
  have HCT := Lib.hid (fun v g W hW hg => scontains_any st n g v W hW hg false (by rw [hasN_any, h3]))
  clear h3
  go_enter Try.func38, Try.ntmps38
  go_wp2_with fail
  go_step3
  go_wp2_with fail
  obtain ⟨W1, hW1⟩ : ∃ W1, W1 = ((w.alloc (.cells #[.slice A1 op.length c1, .slice A2 st.length c2, .int .i64 last, .slice A3 out.length c3] 66)).alloc (.cells #[.int .i64 n] 3)).alloc (.cells #[.slice none 0 0, .slice none 0 0, .int .i64 0, .slice none 0 0] 66) := ⟨_, rfl⟩
  rw [← hW1]
  have BW := Lib.hid (show Below w.heap.size w W1 by rw [hW1]; exact bel_alloc (bel_alloc (bel_alloc (Below.refl _ _) _) _) _)
  have K2 := Lib.hid (show W1.heap[w.heap.size + 1 + 1]? = some (.cells #[.slice none 0 0, .slice none 0 0, .int .i64 0, .slice none 0 0] 66 (0, 0)) by rw [hW1]; exact heap_at _ _ _ (by simp))
  have K1 := Lib.hid (show W1.heap[w.heap.size + 1]? = some (.cells #[.int .i64 n] 3 (0, 0)) by rw [hW1]; exact heap_below (heap_at (w.alloc _) _ (w.heap.size + 1) (by simp)) (bel_alloc (Below.refl _ _) _))
  have K0 := Lib.hid (show W1.heap[w.heap.size]? = some (.cells #[.slice A1 op.length c1, .slice A2 st.length c2, .int .i64 last, .slice A3 out.length c3] 66 (0, 0)) by rw [hW1]; exact newA (bel_alloc (bel_alloc (Below.refl _ _) _) _))
  clear hW1
  refine (HR.out _ _ (HV.out.below BW.out)).mono ?_
  rintro e w1 ⟨rfl, hb1⟩
  have B1 := Lib.hid (bThen BW.out hb1)
  have L0 := Lib.hid (heap_below K0.out hb1)
  have L1 := Lib.hid (heap_below K1.out hb1)
  have L2 := Lib.hid (heap_below K2.out hb1)
  clear hb1 K0 K1 K2
  have hz2 := blk_lt L2.out
  have hz1 := blk_lt L1.out
  have hz0 := blk_lt L0.out
  have d0 := cellsAt L2.out 0
  have d1 := cellsAt L2.out 1
  have d2 := cellsAt L2.out 2
  have d3 := cellsAt L2.out 3
  have dz := frozAt L2.out
  simp at d0 d1 d2 d3
  have s0 := cellsAt L0.out 0
  have s1 := cellsAt L0.out 1
  have s2 := cellsAt L0.out 2
  have s3 := cellsAt L0.out 3
  have sz := frozAt L0.out
  simp at s0 s1 s2 s3
  have m0 := cellsAt L1.out 0
  have mz := frozAt L1.out
  simp at m0
  go_wp2_with fail
  refine (HCT.out _ _ _ ⟨R2.out.1.below B1.out, fun x hx => (R2.out.2.1 x hx).below B1.out, R2.out.2.2⟩ L1.out).mono ?_
  rintro e w2 ⟨rfl, hb2⟩
  have B2 := Lib.hid (bThen B1.out hb2)
  have M0 := Lib.hid (heap_below L0.out hb2)
  have M1 := Lib.hid (heap_below L1.out hb2)
  have M2 := Lib.hid (heap_below L2.out hb2)
  clear hb2 L0 L1 L2 d0 d1 d2 d3 dz s0 s1 s2 s3 sz m0 mz hz2 hz1 hz0
  have hz2 := blk_lt M2.out
  have hz1 := blk_lt M1.out
  have hz0 := blk_lt M0.out
  have d0 := cellsAt M2.out 0
  have d1 := cellsAt M2.out 1
  have d2 := cellsAt M2.out 2
  have d3 := cellsAt M2.out 3
  have dz := frozAt M2.out
  simp at d0 d1 d2 d3
  have s0 := cellsAt M0.out 0
  have s1 := cellsAt M0.out 1
  have s2 := cellsAt M0.out 2
  have s3 := cellsAt M0.out 3
  have sz := frozAt M0.out
  simp at s0 s1 s2 s3
  have m0 := cellsAt M1.out 0
  have mz := frozAt M1.out
  simp at m0
  go_wp2_with fail
  have E := set4 M2.out (.slice none 0 0) (.slice none 0 0) (.int .i64 0) (.slice none 0 0)
  have BE := Lib.hid (bel4 B2.out (g := w.heap.size + 1 + 1) (by omega) (.slice none 0 0) (.slice none 0 0) (.int .i64 0) (.slice none 0 0))
  clear d0 d1 d2 d3 dz
  generalize ((((w2.setCell ⟨w.heap.size + 1 + 1, 0, none⟩ (.slice none 0 0)).setCell ⟨w.heap.size + 1 + 1, 1, none⟩ (.slice none 0 0)).setCell ⟨w.heap.size + 1 + 1, 2, none⟩ (.int .i64 0)).setCell ⟨w.heap.size + 1 + 1, 3, none⟩ (.slice none 0 0)) = W6 at *
  have e0 := cellsAt E 0
  have e1 := cellsAt E 1
  have e2 := cellsAt E 2
  have e3 := cellsAt E 3
  simp at e0 e1 e2 e3
  rw [Exit.noGoto_ret]
  exact bodyPost_ret (v := .tuple #[.agg #[.slice none 0 0, .slice none 0 0, .int .i64 0, .slice none 0 0], .int .i64 190]) (by simp [results, Try.results38, go_sem, e0, e1, e2, e3]) rfl ⟨rfl, BE.out⟩
end Go.Proofs.Ytenpgkkefielfaa
