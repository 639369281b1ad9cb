/-
  WALKS of layer 19: the reference's Add.
-/
import Derived.Test.YtenpgkkefielfaaSinkW11
set_option linter.unusedVariables false
set_option linter.unusedSimpArgs false
namespace Go.Proofs.Ytenpgkkefielfaa
open Go.RowKit

set_option maxRecDepth 100000 in
set_option maxHeartbeats 1000000 in
theorem radd_no1 (op : List Res) (st : List Stg) (last : Int) (out : List Res) (r : Res) (v : Value) (w : World) (hv : SinkAt w v op st last out) (h : rightS op st last out = false) :
    Calls Try.prog 31 #[v, r.val] w fun e w' => e = .returned (.tuple #[zS, .int .i64 1]) ∧ Below w.heap.size w w' := by
  have HR := Lib.hid (fun v W hW => rroom_any op st last out v W hW 0 false (by unfold roomS; rw [h]; rfl))
  have HV := Lib.hid hv
  obtain ⟨A1, c1, A2, c2, A3, c3, rfl⟩ := sink_form hv
  obtain ⟨rl, rh, rk, rn, rv⟩ := r
  clear hv h
  unfold Res.val
  unfold zS
  go_enter Try.func31, Try.ntmps31
  go_wp2_with fail
  obtain ⟨W1, hW1⟩ : ∃ W1, W1 = ((w.alloc (.cells #[.slice A1 op.length c1, .slice A2 st.length c2, .int .i64 last, .slice A3 out.length c3] 66)).alloc (.cells #[.int .i64 rl, .int .i64 rh, .string rk, .int .i64 rn, .int .i64 rv] 41)).alloc (.cells #[.slice none 0 0, .slice none 0 0, .int .i64 0, .slice none 0 0] 66) := ⟨_, rfl⟩
  rw [← hW1]
  have BW := Lib.hid (show Below w.heap.size w W1 by rw [hW1]; exact bel_alloc (bel_alloc (bel_alloc (Below.refl _ _) _) _) _)
  have K2 := Lib.hid (show W1.heap[w.heap.size + 1 + 1]? = some (.cells #[.slice none 0 0, .slice none 0 0, .int .i64 0, .slice none 0 0] 66 (0, 0)) by rw [hW1]; exact heap_at _ _ _ (by simp))
  clear hW1
  refine (HR.out _ _ (HV.out.below BW.out)).mono ?_
  rintro e w1 ⟨rfl, hb1⟩
  have B1 := Lib.hid (bThen BW.out hb1)
  have L2 := Lib.hid (heap_below K2.out hb1)
  clear hb1 K2
  have hz2 := blk_lt L2.out
  have d0 := cellsAt L2.out 0
  have d1 := cellsAt L2.out 1
  have d2 := cellsAt L2.out 2
  have d3 := cellsAt L2.out 3
  have fz := frozAt L2.out
  simp at d0 d1 d2 d3
  go_wp2_with fail
  have E := set4 L2.out (.slice none 0 0) (.slice none 0 0) (.int .i64 0) (.slice none 0 0)
  have BE := Lib.hid (bel4 B1.out (g := w.heap.size + 1 + 1) (by omega) (.slice none 0 0) (.slice none 0 0) (.int .i64 0) (.slice none 0 0))
  clear d0 d1 d2 d3 fz
  generalize ((((w1.setCell ⟨w.heap.size + 1 + 1, 0, none⟩ (.slice none 0 0)).setCell ⟨w.heap.size + 1 + 1, 1, none⟩ (.slice none 0 0)).setCell ⟨w.heap.size + 1 + 1, 2, none⟩ (.int .i64 0)).setCell ⟨w.heap.size + 1 + 1, 3, none⟩ (.slice none 0 0)) = W6 at *
  have e0 := cellsAt E 0
  have e1 := cellsAt E 1
  have e2 := cellsAt E 2
  have e3 := cellsAt E 3
  simp at e0 e1 e2 e3
  exact bodyPost_ret (v := .tuple #[.agg #[.slice none 0 0, .slice none 0 0, .int .i64 0, .slice none 0 0], .int .i64 1]) (by simp [results, Try.results31, go_sem, e0, e1, e2, e3]) rfl ⟨rfl, BE.out⟩
set_option maxRecDepth 100000 in
set_option maxHeartbeats 1000000 in
theorem radd_no2 (op : List Res) (st : List Stg) (last : Int) (out : List Res) (r : Res) (v : Value) (w : World) (hv : SinkAt w v op st last out) (a : Int) (h : roomS op st last out = (a, true)) (h2 : mayB r = false) :
    Calls Try.prog 31 #[v, r.val] w fun e w' => e = .returned (.tuple #[zS, .int .i64 1]) ∧ Below w.heap.size w w' := by
  have HR := Lib.hid (fun v W hW => rroom_any op st last out v W hW a true h)
  have HM := Lib.hid (fun W => rmay_any r W false h2)
  have HV := Lib.hid hv
  obtain ⟨A1, c1, A2, c2, A3, c3, rfl⟩ := sink_form hv
  obtain ⟨rl, rh, rk, rn, rv⟩ := r
  clear hv h h2
  unfold Res.val at HM ⊢
  unfold zS
  go_enter Try.func31, Try.ntmps31
  go_wp2_with fail
  obtain ⟨W1, hW1⟩ : ∃ W1, W1 = ((w.alloc (.cells #[.slice A1 op.length c1, .slice A2 st.length c2, .int .i64 last, .slice A3 out.length c3] 66)).alloc (.cells #[.int .i64 rl, .int .i64 rh, .string rk, .int .i64 rn, .int .i64 rv] 41)).alloc (.cells #[.slice none 0 0, .slice none 0 0, .int .i64 0, .slice none 0 0] 66) := ⟨_, rfl⟩
  rw [← hW1]
  have BW := Lib.hid (show Below w.heap.size w W1 by rw [hW1]; exact bel_alloc (bel_alloc (bel_alloc (Below.refl _ _) _) _) _)
  have K2 := Lib.hid (show W1.heap[w.heap.size + 1 + 1]? = some (.cells #[.slice none 0 0, .slice none 0 0, .int .i64 0, .slice none 0 0] 66 (0, 0)) by rw [hW1]; exact heap_at _ _ _ (by simp))
  have K1 := Lib.hid (show W1.heap[w.heap.size + 1]? = some (.cells #[.int .i64 rl, .int .i64 rh, .string rk, .int .i64 rn, .int .i64 rv] 41 (0, 0)) by rw [hW1]; exact heap_below (heap_at (w.alloc _) _ (w.heap.size + 1) (by simp)) (bel_alloc (Below.refl _ _) _))
  clear hW1
  refine (HR.out _ _ (HV.out.below BW.out)).mono ?_
  rintro e w1 ⟨rfl, hb1⟩
  have B1 := Lib.hid (bThen BW.out hb1)
  have L2 := Lib.hid (heap_below K2.out hb1)
  have L1 := Lib.hid (heap_below K1.out hb1)
  clear hb1 K2 K1
  have hz1 := blk_lt L1.out
  have r0 := cellsAt L1.out 0
  have r1 := cellsAt L1.out 1
  have r2 := cellsAt L1.out 2
  have r3 := cellsAt L1.out 3
  have r4 := cellsAt L1.out 4
  simp at r0 r1 r2 r3 r4
  go_wp2_with fail
  refine (HM.out _).mono ?_
  rintro e w2 ⟨rfl, hb2⟩
  have B2 := Lib.hid (bThen B1.out hb2)
  have M2 := Lib.hid (heap_below L2.out hb2)
  clear hb2 L2
  have hz2 := blk_lt M2.out
  have d0 := cellsAt M2.out 0
  have d1 := cellsAt M2.out 1
  have d2 := cellsAt M2.out 2
  have d3 := cellsAt M2.out 3
  have fz := frozAt M2.out
  simp at d0 d1 d2 d3
  go_wp2_with fail
  have E := set4 M2.out (.slice none 0 0) (.slice none 0 0) (.int .i64 0) (.slice none 0 0)
  have BE := Lib.hid (bel4 B2.out (g := w.heap.size + 1 + 1) (by omega) (.slice none 0 0) (.slice none 0 0) (.int .i64 0) (.slice none 0 0))
  clear d0 d1 d2 d3 fz
  generalize ((((w2.setCell ⟨w.heap.size + 1 + 1, 0, none⟩ (.slice none 0 0)).setCell ⟨w.heap.size + 1 + 1, 1, none⟩ (.slice none 0 0)).setCell ⟨w.heap.size + 1 + 1, 2, none⟩ (.int .i64 0)).setCell ⟨w.heap.size + 1 + 1, 3, none⟩ (.slice none 0 0)) = W6 at *
  have e0 := cellsAt E 0
  have e1 := cellsAt E 1
  have e2 := cellsAt E 2
  have e3 := cellsAt E 3
  simp at e0 e1 e2 e3
  exact bodyPost_ret (v := .tuple #[.agg #[.slice none 0 0, .slice none 0 0, .int .i64 0, .slice none 0 0], .int .i64 1]) (by simp [results, Try.results31, go_sem, e0, e1, e2, e3]) rfl ⟨rfl, BE.out⟩
set_option maxRecDepth 100000 in
set_option maxHeartbeats 1000000 in
theorem radd_no3 (op : List Res) (st : List Stg) (last : Int) (out : List Res) (r : Res) (v : Value) (w : World) (hv : SinkAt w v op st last out) (h : roomS op st last out = (0, true)) (h2 : mayB r = true) :
    Calls Try.prog 31 #[v, r.val] w fun e w' => e = .returned (.tuple #[zS, .int .i64 3]) ∧ Below w.heap.size w w' := by
  have HR := Lib.hid (fun v W hW => rroom_any op st last out v W hW 0 true h)
  have HM := Lib.hid (fun W => rmay_any r W true h2)
  have HV := Lib.hid hv
  obtain ⟨A1, c1, A2, c2, A3, c3, rfl⟩ := sink_form hv
  obtain ⟨rl, rh, rk, rn, rv⟩ := r
  clear hv h h2
  unfold Res.val at HM ⊢
  unfold zS
  go_enter Try.func31, Try.ntmps31
  go_wp2_with fail
  obtain ⟨W1, hW1⟩ : ∃ W1, W1 = ((w.alloc (.cells #[.slice A1 op.length c1, .slice A2 st.length c2, .int .i64 last, .slice A3 out.length c3] 66)).alloc (.cells #[.int .i64 rl, .int .i64 rh, .string rk, .int .i64 rn, .int .i64 rv] 41)).alloc (.cells #[.slice none 0 0, .slice none 0 0, .int .i64 0, .slice none 0 0] 66) := ⟨_, rfl⟩
  rw [← hW1]
  have BW := Lib.hid (show Below w.heap.size w W1 by rw [hW1]; exact bel_alloc (bel_alloc (bel_alloc (Below.refl _ _) _) _) _)
  have K2 := Lib.hid (show W1.heap[w.heap.size + 1 + 1]? = some (.cells #[.slice none 0 0, .slice none 0 0, .int .i64 0, .slice none 0 0] 66 (0, 0)) by rw [hW1]; exact heap_at _ _ _ (by simp))
  have K1 := Lib.hid (show W1.heap[w.heap.size + 1]? = some (.cells #[.int .i64 rl, .int .i64 rh, .string rk, .int .i64 rn, .int .i64 rv] 41 (0, 0)) by rw [hW1]; exact heap_below (heap_at (w.alloc _) _ (w.heap.size + 1) (by simp)) (bel_alloc (Below.refl _ _) _))
  clear hW1
  refine (HR.out _ _ (HV.out.below BW.out)).mono ?_
  rintro e w1 ⟨rfl, hb1⟩
  have B1 := Lib.hid (bThen BW.out hb1)
  have L2 := Lib.hid (heap_below K2.out hb1)
  have L1 := Lib.hid (heap_below K1.out hb1)
  clear hb1 K2 K1
  have hz1 := blk_lt L1.out
  have r0 := cellsAt L1.out 0
  have r1 := cellsAt L1.out 1
  have r2 := cellsAt L1.out 2
  have r3 := cellsAt L1.out 3
  have r4 := cellsAt L1.out 4
  simp at r0 r1 r2 r3 r4
  go_wp2_with fail
  refine (HM.out _).mono ?_
  rintro e w2 ⟨rfl, hb2⟩
  have B2 := Lib.hid (bThen B1.out hb2)
  have M2 := Lib.hid (heap_below L2.out hb2)
  clear hb2 L2
  have hz2 := blk_lt M2.out
  have d0 := cellsAt M2.out 0
  have d1 := cellsAt M2.out 1
  have d2 := cellsAt M2.out 2
  have d3 := cellsAt M2.out 3
  have fz := frozAt M2.out
  simp at d0 d1 d2 d3
  go_wp2_with fail
  have E := set4 M2.out (.slice none 0 0) (.slice none 0 0) (.int .i64 0) (.slice none 0 0)
  have BE := Lib.hid (bel4 B2.out (g := w.heap.size + 1 + 1) (by omega) (.slice none 0 0) (.slice none 0 0) (.int .i64 0) (.slice none 0 0))
  clear d0 d1 d2 d3 fz
  generalize ((((w2.setCell ⟨w.heap.size + 1 + 1, 0, none⟩ (.slice none 0 0)).setCell ⟨w.heap.size + 1 + 1, 1, none⟩ (.slice none 0 0)).setCell ⟨w.heap.size + 1 + 1, 2, none⟩ (.int .i64 0)).setCell ⟨w.heap.size + 1 + 1, 3, none⟩ (.slice none 0 0)) = W6 at *
  have e0 := cellsAt E 0
  have e1 := cellsAt E 1
  have e2 := cellsAt E 2
  have e3 := cellsAt E 3
  simp at e0 e1 e2 e3
  exact bodyPost_ret (v := .tuple #[.agg #[.slice none 0 0, .slice none 0 0, .int .i64 0, .slice none 0 0], .int .i64 3]) (by simp [results, Try.results31, go_sem, e0, e1, e2, e3]) rfl ⟨rfl, BE.out⟩
end Go.Proofs.Ytenpgkkefielfaa
