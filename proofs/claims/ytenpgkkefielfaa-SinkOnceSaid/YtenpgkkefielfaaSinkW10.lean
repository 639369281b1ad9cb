/-
  WALKS of layer 19: Abort of both sides.
-/
import Derived.Test.YtenpgkkefielfaaSinkW8
set_option linter.unusedVariables false
set_option linter.unusedSimpArgs false
namespace Go.Proofs.Ytenpgkkefielfaa
open Go.RowKit

theorem sink_out {W : World} {v : Value} {op out : List Res} {st : List Stg} {last : Int} (h : SinkAt W v op st last out) :
    (∀ A c, (∃ a b, v = .agg #[a, b, .int .i64 last, .slice A out.length c]) → RowR W (.slice A out.length c) out) ∧ wfL last := by
  obtain ⟨vo, vs, vu, rfl, -, -, hl, hu⟩ := h
  refine ⟨?_, hl⟩
  rintro A c ⟨a, b, e⟩
  injection e with e
  injection e with e
  simp at e
  obtain ⟨-, -, rfl⟩ := e
  exact hu
theorem sink_bare {W : World} {u : Value} {out : List Res} {last : Int} (h : RowR W u out) (hl : wfL last) : SinkAt W (.agg #[.slice none 0 0, .slice none 0 0, .int .i64 last, u]) [] [] last out :=
  ⟨_, _, _, rfl, ⟨Row.none_, by simp, by simp⟩, ⟨Row.none_, by simp, by simp⟩, hl, h⟩
set_option maxRecDepth 100000 in
set_option maxHeartbeats 2000000 in
theorem sabort_no (op : List Res) (st : List Stg) (last : Int) (out : List Res) (v : Value) (w : World) (hv : SinkAt w v op st last out) (h : rightS op st last out = false) :
    Calls Try.prog 39 #[v] w fun e w' => e = .returned (.tuple #[zS, .int .i64 1]) ∧ Below w.heap.size w w' := by
  have HR := Lib.hid (fun v W hW => sright_any op st last out v W hW false h)
  have HV := Lib.hid hv
  have HR3 := Lib.hid (sink_out hv)
  obtain ⟨A1, c1, A2, c2, A3, c3, rfl⟩ := sink_form hv
  have R3 := Lib.hid (HR3.out.1 A3 c3 ⟨_, _, rfl⟩)
  have HLW := Lib.hid HR3.out.2
  clear hv h HR3
  unfold zS
  go_enter Try.func39, Try.ntmps39
  go_wp2_with fail
  obtain ⟨W1, hW1⟩ : ∃ W1, W1 = (w.alloc (.cells #[.slice A1 op.length c1, .slice A2 st.length c2, .int .i64 last, .slice A3 out.length c3] 66)).alloc (.cells #[.slice none 0 0, .slice none 0 0, .int .i64 0, .slice none 0 0] 66) := ⟨_, rfl⟩
  rw [← hW1]
  have BW := Lib.hid (show Below w.heap.size w W1 by rw [hW1]; exact bel_alloc (bel_alloc (Below.refl _ _) _) _)
  have K1 := Lib.hid (show W1.heap[w.heap.size + 1]? = some (.cells #[.slice none 0 0, .slice none 0 0, .int .i64 0, .slice none 0 0] 66 (0, 0)) by rw [hW1]; exact heap_at _ _ _ (by simp))
  have K0 := Lib.hid (show W1.heap[w.heap.size]? = some (.cells #[.slice A1 op.length c1, .slice A2 st.length c2, .int .i64 last, .slice A3 out.length c3] 66 (0, 0)) by rw [hW1]; exact newA (bel_alloc (Below.refl _ _) _))
  clear hW1
  refine (HR.out _ _ (HV.out.below BW.out)).mono ?_
  rintro e w1 ⟨rfl, hb1⟩
  have B1 := Lib.hid (bThen BW.out hb1)
  have L0 := Lib.hid (heap_below K0.out hb1)
  have L1 := Lib.hid (heap_below K1.out hb1)
  clear hb1 K0 K1 HV
  have hz1 := blk_lt L1.out
  have hz0 := blk_lt L0.out
  have d0 := cellsAt L1.out 0
  have d1 := cellsAt L1.out 1
  have d2 := cellsAt L1.out 2
  have d3 := cellsAt L1.out 3
  have fz := frozAt L1.out
  have s0 := cellsAt L0.out 0
  have s1 := cellsAt L0.out 1
  have s2 := cellsAt L0.out 2
  have s3 := cellsAt L0.out 3
  have sz := frozAt L0.out
  simp at d0 d1 d2 d3 s0 s1 s2 s3
  go_wp2_with fail
  have E := set4 L1.out (.slice none 0 0) (.slice none 0 0) (.int .i64 0) (.slice none 0 0)
  have BE := Lib.hid (bel4 B1.out (g := w.heap.size + 1) (by omega) (.slice none 0 0) (.slice none 0 0) (.int .i64 0) (.slice none 0 0))
  clear d0 d1 d2 d3 fz
  generalize ((((w1.setCell ⟨w.heap.size + 1, 0, none⟩ (.slice none 0 0)).setCell ⟨w.heap.size + 1, 1, none⟩ (.slice none 0 0)).setCell ⟨w.heap.size + 1, 2, none⟩ (.int .i64 0)).setCell ⟨w.heap.size + 1, 3, none⟩ (.slice none 0 0)) = W6 at *
  have e0 := cellsAt E 0
  have e1 := cellsAt E 1
  have e2 := cellsAt E 2
  have e3 := cellsAt E 3
  simp at e0 e1 e2 e3
  exact bodyPost_ret (v := .tuple #[.agg #[.slice none 0 0, .slice none 0 0, .int .i64 0, .slice none 0 0], .int .i64 1]) (by simp [results, Try.results39, go_sem, e0, e1, e2, e3]) rfl ⟨rfl, BE.out⟩
set_option maxRecDepth 100000 in
set_option maxHeartbeats 2000000 in
theorem rabort_no (op : List Res) (st : List Stg) (last : Int) (out : List Res) (v : Value) (w : World) (hv : SinkAt w v op st last out) (h : rightS op st last out = false) :
    Calls Try.prog 42 #[v] w fun e w' => e = .returned (.tuple #[zS, .int .i64 1]) ∧ Below w.heap.size w w' := by
  have HR := Lib.hid (fun v W hW => rsright_any op st last out v W hW false h)
  have HV := Lib.hid hv
  have HR3 := Lib.hid (sink_out hv)
  obtain ⟨A1, c1, A2, c2, A3, c3, rfl⟩ := sink_form hv
  have R3 := Lib.hid (HR3.out.1 A3 c3 ⟨_, _, rfl⟩)
  have HLW := Lib.hid HR3.out.2
  clear hv h HR3
  unfold zS
  go_enter Try.func42, Try.ntmps42
  go_wp2_with fail
  obtain ⟨W1, hW1⟩ : ∃ W1, W1 = (w.alloc (.cells #[.slice A1 op.length c1, .slice A2 st.length c2, .int .i64 last, .slice A3 out.length c3] 66)).alloc (.cells #[.slice none 0 0, .slice none 0 0, .int .i64 0, .slice none 0 0] 66) := ⟨_, rfl⟩
  rw [← hW1]
  have BW := Lib.hid (show Below w.heap.size w W1 by rw [hW1]; exact bel_alloc (bel_alloc (Below.refl _ _) _) _)
  have K1 := Lib.hid (show W1.heap[w.heap.size + 1]? = some (.cells #[.slice none 0 0, .slice none 0 0, .int .i64 0, .slice none 0 0] 66 (0, 0)) by rw [hW1]; exact heap_at _ _ _ (by simp))
  have K0 := Lib.hid (show W1.heap[w.heap.size]? = some (.cells #[.slice A1 op.length c1, .slice A2 st.length c2, .int .i64 last, .slice A3 out.length c3] 66 (0, 0)) by rw [hW1]; exact newA (bel_alloc (Below.refl _ _) _))
  clear hW1
  refine (HR.out _ _ (HV.out.below BW.out)).mono ?_
  rintro e w1 ⟨rfl, hb1⟩
  have B1 := Lib.hid (bThen BW.out hb1)
  have L0 := Lib.hid (heap_below K0.out hb1)
  have L1 := Lib.hid (heap_below K1.out hb1)
  clear hb1 K0 K1 HV
  have hz1 := blk_lt L1.out
  have hz0 := blk_lt L0.out
  have d0 := cellsAt L1.out 0
  have d1 := cellsAt L1.out 1
  have d2 := cellsAt L1.out 2
  have d3 := cellsAt L1.out 3
  have fz := frozAt L1.out
  have s0 := cellsAt L0.out 0
  have s1 := cellsAt L0.out 1
  have s2 := cellsAt L0.out 2
  have s3 := cellsAt L0.out 3
  have sz := frozAt L0.out
  simp at d0 d1 d2 d3 s0 s1 s2 s3
  go_wp2_with fail
  have E := set4 L1.out (.slice none 0 0) (.slice none 0 0) (.int .i64 0) (.slice none 0 0)
  have BE := Lib.hid (bel4 B1.out (g := w.heap.size + 1) (by omega) (.slice none 0 0) (.slice none 0 0) (.int .i64 0) (.slice none 0 0))
  clear d0 d1 d2 d3 fz
  generalize ((((w1.setCell ⟨w.heap.size + 1, 0, none⟩ (.slice none 0 0)).setCell ⟨w.heap.size + 1, 1, none⟩ (.slice none 0 0)).setCell ⟨w.heap.size + 1, 2, none⟩ (.int .i64 0)).setCell ⟨w.heap.size + 1, 3, none⟩ (.slice none 0 0)) = W6 at *
  have e0 := cellsAt E 0
  have e1 := cellsAt E 1
  have e2 := cellsAt E 2
  have e3 := cellsAt E 3
  simp at e0 e1 e2 e3
  exact bodyPost_ret (v := .tuple #[.agg #[.slice none 0 0, .slice none 0 0, .int .i64 0, .slice none 0 0], .int .i64 1]) (by simp [results, Try.results42, go_sem, e0, e1, e2, e3]) rfl ⟨rfl, BE.out⟩
set_option maxRecDepth 100000 in
set_option maxHeartbeats 2000000 in
theorem rabort_yes (op : List Res) (st : List Stg) (last : Int) (out : List Res) (v : Value) (w : World) (hv : SinkAt w v op st last out) (h : rightS op st last out = true) :
    Calls Try.prog 42 #[v] w fun e w' => ∃ v', e = .returned (.tuple #[v', .int .i64 0]) ∧ SinkAt w' v' [] [] last out ∧ Below w.heap.size w w' := by
  have HR := Lib.hid (fun v W hW => rsright_any op st last out v W hW true h)
  have HV := Lib.hid hv
  have HR3 := Lib.hid (sink_out hv)
  obtain ⟨A1, c1, A2, c2, A3, c3, rfl⟩ := sink_form hv
  have R3 := Lib.hid (HR3.out.1 A3 c3 ⟨_, _, rfl⟩)
  have HLW := Lib.hid HR3.out.2
  clear hv h HR3
  go_enter Try.func42, Try.ntmps42
  go_wp2_with fail
  obtain ⟨W1, hW1⟩ : ∃ W1, W1 = (w.alloc (.cells #[.slice A1 op.length c1, .slice A2 st.length c2, .int .i64 last, .slice A3 out.length c3] 66)).alloc (.cells #[.slice none 0 0, .slice none 0 0, .int .i64 0, .slice none 0 0] 66) := ⟨_, rfl⟩
  rw [← hW1]
  have BW := Lib.hid (show Below w.heap.size w W1 by rw [hW1]; exact bel_alloc (bel_alloc (Below.refl _ _) _) _)
  have K1 := Lib.hid (show W1.heap[w.heap.size + 1]? = some (.cells #[.slice none 0 0, .slice none 0 0, .int .i64 0, .slice none 0 0] 66 (0, 0)) by rw [hW1]; exact heap_at _ _ _ (by simp))
  have K0 := Lib.hid (show W1.heap[w.heap.size]? = some (.cells #[.slice A1 op.length c1, .slice A2 st.length c2, .int .i64 last, .slice A3 out.length c3] 66 (0, 0)) by rw [hW1]; exact newA (bel_alloc (Below.refl _ _) _))
  clear hW1
  refine (HR.out _ _ (HV.out.below BW.out)).mono ?_
  rintro e w1 ⟨rfl, hb1⟩
  have B1 := Lib.hid (bThen BW.out hb1)
  have L0 := Lib.hid (heap_below K0.out hb1)
  have L1 := Lib.hid (heap_below K1.out hb1)
  clear hb1 K0 K1 HV
  have hz1 := blk_lt L1.out
  have hz0 := blk_lt L0.out
  have d0 := cellsAt L1.out 0
  have d1 := cellsAt L1.out 1
  have d2 := cellsAt L1.out 2
  have d3 := cellsAt L1.out 3
  have fz := frozAt L1.out
  have s0 := cellsAt L0.out 0
  have s1 := cellsAt L0.out 1
  have s2 := cellsAt L0.out 2
  have s3 := cellsAt L0.out 3
  have sz := frozAt L0.out
  simp at d0 d1 d2 d3 s0 s1 s2 s3
  go_wp2_with fail
  have E := set4 L1.out (.slice none 0 0) (.slice none 0 0) (.int .i64 last) (.slice A3 out.length c3)
  have BE := Lib.hid (bel4 B1.out (g := w.heap.size + 1) (by omega) (.slice none 0 0) (.slice none 0 0) (.int .i64 last) (.slice A3 out.length c3))
  clear d0 d1 d2 d3 fz
  generalize ((((w1.setCell ⟨w.heap.size + 1, 0, none⟩ (.slice none 0 0)).setCell ⟨w.heap.size + 1, 1, none⟩ (.slice none 0 0)).setCell ⟨w.heap.size + 1, 2, none⟩ (.int .i64 last)).setCell ⟨w.heap.size + 1, 3, none⟩ (.slice A3 out.length c3)) = W6 at *
  have e0 := cellsAt E 0
  have e1 := cellsAt E 1
  have e2 := cellsAt E 2
  have e3 := cellsAt E 3
  simp at e0 e1 e2 e3
  exact bodyPost_ret (v := .tuple #[.agg #[.slice none 0 0, .slice none 0 0, .int .i64 last, .slice A3 out.length c3], .int .i64 0]) (by simp [results, Try.results42, go_sem, e0, e1, e2, e3]) rfl ⟨_, rfl, sink_bare (R3.out.below BE.out) HLW.out, BE.out⟩
set_option maxRecDepth 100000 in
set_option maxHeartbeats 2000000 in
theorem sabort_yes (op : List Res) (st : List Stg) (last : Int) (out : List Res) (v : Value) (w : World) (hv : SinkAt w v op st last out) (h : rightS op st last out = true) :
    Calls Try.prog 39 #[v] w fun e w' => ∃ v', e = .returned (.tuple #[v', .int .i64 0]) ∧ SinkAt w' v' [] [] last out ∧ Below w.heap.size w w' ∧ LocK w w' v v' := by
  have HR := Lib.hid (fun v W hW => sright_any op st last out v W hW true h)
  have HV := Lib.hid hv
  have HR3 := Lib.hid (sink_out hv)
  obtain ⟨A1, c1, A2, c2, A3, c3, rfl⟩ := sink_form hv
  have R3 := Lib.hid (HR3.out.1 A3 c3 ⟨_, _, rfl⟩)
  have HLW := Lib.hid HR3.out.2
  clear hv h HR3
  go_enter Try.func39, Try.ntmps39
  go_wp2_with fail
  obtain ⟨W1, hW1⟩ : ∃ W1, W1 = (w.alloc (.cells #[.slice A1 op.length c1, .slice A2 st.length c2, .int .i64 last, .slice A3 out.length c3] 66)).alloc (.cells #[.slice none 0 0, .slice none 0 0, .int .i64 0, .slice none 0 0] 66) := ⟨_, rfl⟩
  rw [← hW1]
  have BW := Lib.hid (show Below w.heap.size w W1 by rw [hW1]; exact bel_alloc (bel_alloc (Below.refl _ _) _) _)
  have K1 := Lib.hid (show W1.heap[w.heap.size + 1]? = some (.cells #[.slice none 0 0, .slice none 0 0, .int .i64 0, .slice none 0 0] 66 (0, 0)) by rw [hW1]; exact heap_at _ _ _ (by simp))
  have K0 := Lib.hid (show W1.heap[w.heap.size]? = some (.cells #[.slice A1 op.length c1, .slice A2 st.length c2, .int .i64 last, .slice A3 out.length c3] 66 (0, 0)) by rw [hW1]; exact newA (bel_alloc (Below.refl _ _) _))
  clear hW1
  refine (HR.out _ _ (HV.out.below BW.out)).mono ?_
  rintro e w1 ⟨rfl, hb1⟩
  have B1 := Lib.hid (bThen BW.out hb1)
  have L0 := Lib.hid (heap_below K0.out hb1)
  have L1 := Lib.hid (heap_below K1.out hb1)
  clear hb1 K0 K1 HV
  have hz1 := blk_lt L1.out
  have hz0 := blk_lt L0.out
  have d0 := cellsAt L1.out 0
  have d1 := cellsAt L1.out 1
  have d2 := cellsAt L1.out 2
  have d3 := cellsAt L1.out 3
  have fz := frozAt L1.out
  have s0 := cellsAt L0.out 0
  have s1 := cellsAt L0.out 1
  have s2 := cellsAt L0.out 2
  have s3 := cellsAt L0.out 3
  have sz := frozAt L0.out
  simp at d0 d1 d2 d3 s0 s1 s2 s3
  go_wp2_with fail
  have B2 := Lib.hid ((B1.out.setCell (p := ⟨w.heap.size, 0, none⟩) (by exact Nat.le_refl _) (.slice none 0 0)).setCell (p := ⟨w.heap.size, 1, none⟩) (by exact Nat.le_refl _) (.slice none 0 0))
  have L2 : ((w1.setCell ⟨w.heap.size, 0, none⟩ (.slice none 0 0)).setCell ⟨w.heap.size, 1, none⟩ (.slice none 0 0)).heap[w.heap.size + 1]? = some (.cells #[.slice none 0 0, .slice none 0 0, .int .i64 0, .slice none 0 0] 66 (0, 0)) :=
    (Below.heap_setCell _ _ _ _ (by simp)).trans ((Below.heap_setCell _ _ _ _ (by simp)).trans L1.out)
  have E := set4 L2 (.slice none 0 0) (.slice none 0 0) (.int .i64 last) (.slice A3 out.length c3)
  have BE := Lib.hid (bel4 B2.out (g := w.heap.size + 1) (by omega) (.slice none 0 0) (.slice none 0 0) (.int .i64 last) (.slice A3 out.length c3))
  clear d0 d1 d2 d3 fz s0 s1 s2 s3 sz L2 B2
  generalize ((((((w1.setCell ⟨w.heap.size, 0, none⟩ (.slice none 0 0)).setCell ⟨w.heap.size, 1, none⟩ (.slice none 0 0)).setCell ⟨w.heap.size + 1, 0, none⟩ (.slice none 0 0)).setCell ⟨w.heap.size + 1, 1, none⟩ (.slice none 0 0)).setCell ⟨w.heap.size + 1, 2, none⟩ (.int .i64 last)).setCell ⟨w.heap.size + 1, 3, none⟩ (.slice A3 out.length c3)) = W6 at *
  have e0 := cellsAt E 0
  have e1 := cellsAt E 1
  have e2 := cellsAt E 2
  have e3 := cellsAt E 3
  simp at e0 e1 e2 e3
  exact bodyPost_ret (v := .tuple #[.agg #[.slice none 0 0, .slice none 0 0, .int .i64 last, .slice A3 out.length c3], .int .i64 0]) (by simp [results, Try.results39, go_sem, e0, e1, e2, e3]) rfl ⟨_, rfl, sink_bare (R3.out.below BE.out) HLW.out, BE.out, ⟨_, _, _, _, _, _, _, _, rfl, rfl, .inr (.inl rfl), .inr (.inl rfl), .inl rfl⟩⟩
end Go.Proofs.Ytenpgkkefielfaa
