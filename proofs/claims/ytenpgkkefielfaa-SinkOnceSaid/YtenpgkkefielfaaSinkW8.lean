/-
  WALKS of layer 19: the program's Add.
-/
import Derived.Test.YtenpgkkefielfaaSinkW7
set_option linter.unusedVariables false
set_option linter.unusedSimpArgs false
namespace Go.Proofs.Ytenpgkkefielfaa
open Go.RowKit

/-- A sink that is nothing. -/
def zS : Value := .agg #[.slice none 0 0, .slice none 0 0, .int .i64 0, .slice none 0 0]
theorem sink_form {W : World} {v : Value} {op out : List Res} {st : List Stg} {last : Int} (h : SinkAt W v op st last out) :
    ∃ A1 c1 A2 c2 A3 c3, v = .agg #[.slice A1 op.length c1, .slice A2 st.length c2, .int .i64 last, .slice A3 out.length c3] := by
  obtain ⟨vo, vs, vu, rfl, ⟨⟨A1, c1, rfl, -, -⟩, -⟩, ⟨⟨A2, c2, rfl, -, -⟩, -⟩, -, ⟨⟨A3, c3, rfl, -, -⟩, -⟩⟩ := h
  exact ⟨_, _, _, _, _, _, rfl⟩
theorem heap_below {W W' : World} {g : Nat} {o : Obj} (h : W.heap[g]? = some o) (hb : Below W.heap.size W W') : W'.heap[g]? = some o := (hb.block g (blk_lt h)).trans h
theorem set4 {w1 : World} {g : Nat} {x0 x1 x2 x3 : Value} {T : TypeId} (h : w1.heap[g]? = some (.cells #[x0, x1, x2, x3] T (0, 0))) (a b c d : Value) :
    ((((w1.setCell ⟨g, 0, none⟩ a).setCell ⟨g, 1, none⟩ b).setCell ⟨g, 2, none⟩ c).setCell ⟨g, 3, none⟩ d).heap[g]? = some (.cells #[a, b, c, d] T (0, 0)) := by
  have := blk_set (blk_set (blk_set (blk_set h 0 a) 1 b) 2 c) 3 d
  simpa using this
theorem bel4 {w w1 : World} {n : Nat} (B : Below n w w1) {g : Nat} (hg : n ≤ g) (a b c d : Value) :
    Below n w ((((w1.setCell ⟨g, 0, none⟩ a).setCell ⟨g, 1, none⟩ b).setCell ⟨g, 2, none⟩ c).setCell ⟨g, 3, none⟩ d) :=
  (((B.setCell (p := ⟨g, 0, none⟩) hg a).setCell (p := ⟨g, 1, none⟩) hg b).setCell (p := ⟨g, 2, none⟩) hg c).setCell (p := ⟨g, 3, none⟩) hg d
set_option maxRecDepth 100000 in
set_option maxHeartbeats 2000000 in
theorem sadd_no1 (op : List Res) (st : List Stg) (last : Int) (out : List Res) (r : Res) (v : Value) (w : World) (hv : SinkAt w v op st last out) (h : rightS op st last out = false) :
    Calls Try.prog 30 #[v, r.val] w fun e w' => e = .returned (.tuple #[zS, .int .i64 1]) ∧ Below w.heap.size w w' := by
  have HR := Lib.hid (fun v W hW => sright_any op st last out v W hW false h)
  clear h
  have HV := Lib.hid hv
  obtain ⟨A1, c1, A2, c2, A3, c3, rfl⟩ := sink_form hv
  obtain ⟨rl, rh, rk, rn, rv⟩ := r
  clear hv
  unfold Res.val
  unfold zS
  go_enter Try.func30, Try.ntmps30
  go_wp2_with fail
  obtain ⟨W1, hW1⟩ : ∃ W1, W1 = ((w.alloc (.cells #[.slice A1 op.length c1, .slice A2 st.length c2, .int .i64 last, .slice A3 out.length c3] 66)).alloc (.cells #[.int .i64 rl, .int .i64 rh, .string rk, .int .i64 rn, .int .i64 rv] 41)).alloc (.cells #[.slice none 0 0, .slice none 0 0, .int .i64 0, .slice none 0 0] 66) := ⟨_, rfl⟩
  rw [← hW1]
  have BW := Lib.hid (show Below w.heap.size w W1 by rw [hW1]; exact bel_alloc (bel_alloc (bel_alloc (Below.refl _ _) _) _) _)
  have K2 := Lib.hid (show W1.heap[w.heap.size + 1 + 1]? = some (.cells #[.slice none 0 0, .slice none 0 0, .int .i64 0, .slice none 0 0] 66 (0, 0)) by rw [hW1]; exact heap_at _ _ _ (by simp))
  have K1 := Lib.hid (show W1.heap[w.heap.size + 1]? = some (.cells #[.int .i64 rl, .int .i64 rh, .string rk, .int .i64 rn, .int .i64 rv] 41 (0, 0)) by rw [hW1]; exact heap_below (heap_at (w.alloc _) _ (w.heap.size + 1) (by simp)) (bel_alloc (Below.refl _ _) _))
  have K0 := Lib.hid (show W1.heap[w.heap.size]? = some (.cells #[.slice A1 op.length c1, .slice A2 st.length c2, .int .i64 last, .slice A3 out.length c3] 66 (0, 0)) by rw [hW1]; exact newA (bel_alloc (bel_alloc (Below.refl _ _) _) _))
  clear hW1
  refine (HR.out _ _ (HV.out.below BW.out)).mono ?_
  rintro e w1 ⟨rfl, hb1⟩
  have B1 := Lib.hid (bThen BW.out hb1)
  have L0 := Lib.hid (heap_below K0.out hb1)
  have L1 := Lib.hid (heap_below K1.out hb1)
  have L2 := Lib.hid (heap_below K2.out hb1)
  clear hb1 K0 K1 K2
  have hz2 := blk_lt L2.out
  have hz1 := blk_lt L1.out
  have hz0 := blk_lt L0.out
  have d0 := cellsAt L2.out 0
  have d1 := cellsAt L2.out 1
  have d2 := cellsAt L2.out 2
  have d3 := cellsAt L2.out 3
  have fz := frozAt L2.out
  have s0 := cellsAt L0.out 0
  have s1 := cellsAt L0.out 1
  have s2 := cellsAt L0.out 2
  have s3 := cellsAt L0.out 3
  have sz := frozAt L0.out
  have r0 := cellsAt L1.out 0
  have r1 := cellsAt L1.out 1
  have r2 := cellsAt L1.out 2
  have r3 := cellsAt L1.out 3
  have r4 := cellsAt L1.out 4
  simp at d0 d1 d2 d3 s0 s1 s2 s3 r0 r1 r2 r3 r4
  go_wp2_with fail
  have E := set4 L2.out (.slice none 0 0) (.slice none 0 0) (.int .i64 0) (.slice none 0 0)
  have BE := Lib.hid (bel4 B1.out (g := w.heap.size + 1 + 1) (by omega) (.slice none 0 0) (.slice none 0 0) (.int .i64 0) (.slice none 0 0))
  clear d0 d1 d2 d3 fz
  generalize ((((w1.setCell ⟨w.heap.size + 1 + 1, 0, none⟩ (.slice none 0 0)).setCell ⟨w.heap.size + 1 + 1, 1, none⟩ (.slice none 0 0)).setCell ⟨w.heap.size + 1 + 1, 2, none⟩ (.int .i64 0)).setCell ⟨w.heap.size + 1 + 1, 3, none⟩ (.slice none 0 0)) = W6 at *
  have e0 := cellsAt E 0
  have e1 := cellsAt E 1
  have e2 := cellsAt E 2
  have e3 := cellsAt E 3
  simp at e0 e1 e2 e3
  exact bodyPost_ret (v := .tuple #[.agg #[.slice none 0 0, .slice none 0 0, .int .i64 0, .slice none 0 0], .int .i64 1]) (by simp [results, Try.results30, go_sem, e0, e1, e2, e3]) rfl ⟨rfl, BE.out⟩
set_option maxRecDepth 100000 in
set_option maxHeartbeats 2000000 in
theorem sadd_no2 (op : List Res) (st : List Stg) (last : Int) (out : List Res) (r : Res) (v : Value) (w : World) (hv : SinkAt w v op st last out) (h : rightS op st last out = true) (h2 : mayB r = false) :
    Calls Try.prog 30 #[v, r.val] w fun e w' => e = .returned (.tuple #[zS, .int .i64 1]) ∧ Below w.heap.size w w' := by
  have HR := Lib.hid (fun v W hW => sright_any op st last out v W hW true h)
  have HM := Lib.hid (fun W => may_any r W false h2)
  clear h h2
  have HV := Lib.hid hv
  obtain ⟨A1, c1, A2, c2, A3, c3, rfl⟩ := sink_form hv
  obtain ⟨rl, rh, rk, rn, rv⟩ := r
  clear hv
  unfold Res.val at HM ⊢
  unfold zS
  go_enter Try.func30, Try.ntmps30
  go_wp2_with fail
  obtain ⟨W1, hW1⟩ : ∃ W1, W1 = ((w.alloc (.cells #[.slice A1 op.length c1, .slice A2 st.length c2, .int .i64 last, .slice A3 out.length c3] 66)).alloc (.cells #[.int .i64 rl, .int .i64 rh, .string rk, .int .i64 rn, .int .i64 rv] 41)).alloc (.cells #[.slice none 0 0, .slice none 0 0, .int .i64 0, .slice none 0 0] 66) := ⟨_, rfl⟩
  rw [← hW1]
  have BW := Lib.hid (show Below w.heap.size w W1 by rw [hW1]; exact bel_alloc (bel_alloc (bel_alloc (Below.refl _ _) _) _) _)
  have K2 := Lib.hid (show W1.heap[w.heap.size + 1 + 1]? = some (.cells #[.slice none 0 0, .slice none 0 0, .int .i64 0, .slice none 0 0] 66 (0, 0)) by rw [hW1]; exact heap_at _ _ _ (by simp))
  have K1 := Lib.hid (show W1.heap[w.heap.size + 1]? = some (.cells #[.int .i64 rl, .int .i64 rh, .string rk, .int .i64 rn, .int .i64 rv] 41 (0, 0)) by rw [hW1]; exact heap_below (heap_at (w.alloc _) _ (w.heap.size + 1) (by simp)) (bel_alloc (Below.refl _ _) _))
  have K0 := Lib.hid (show W1.heap[w.heap.size]? = some (.cells #[.slice A1 op.length c1, .slice A2 st.length c2, .int .i64 last, .slice A3 out.length c3] 66 (0, 0)) by rw [hW1]; exact newA (bel_alloc (bel_alloc (Below.refl _ _) _) _))
  clear hW1
  refine (HR.out _ _ (HV.out.below BW.out)).mono ?_
  rintro e w1 ⟨rfl, hb1⟩
  have B1 := Lib.hid (bThen BW.out hb1)
  have L0 := Lib.hid (heap_below K0.out hb1)
  have L1 := Lib.hid (heap_below K1.out hb1)
  have L2 := Lib.hid (heap_below K2.out hb1)
  clear hb1 K0 K1 K2
  have hz2 := blk_lt L2.out
  have hz1 := blk_lt L1.out
  have hz0 := blk_lt L0.out
  have d0 := cellsAt L2.out 0
  have d1 := cellsAt L2.out 1
  have d2 := cellsAt L2.out 2
  have d3 := cellsAt L2.out 3
  have fz := frozAt L2.out
  have s0 := cellsAt L0.out 0
  have s1 := cellsAt L0.out 1
  have s2 := cellsAt L0.out 2
  have s3 := cellsAt L0.out 3
  have sz := frozAt L0.out
  have r0 := cellsAt L1.out 0
  have r1 := cellsAt L1.out 1
  have r2 := cellsAt L1.out 2
  have r3 := cellsAt L1.out 3
  have r4 := cellsAt L1.out 4
  simp at d0 d1 d2 d3 s0 s1 s2 s3 r0 r1 r2 r3 r4
  go_wp2_with fail
  refine (HM.out _).mono ?_
  rintro e w2 ⟨rfl, hb2⟩
  have B2 := Lib.hid (bThen B1.out hb2)
  have M0 := Lib.hid (heap_below L0.out hb2)
  have M1 := Lib.hid (heap_below L1.out hb2)
  have M2 := Lib.hid (heap_below L2.out hb2)
  clear hb2 L0 L1 L2
  clear d0 d1 d2 d3 s0 s1 s2 s3 r0 r1 r2 r3 r4 hz0 hz1 hz2 fz sz
  have hz2 := blk_lt M2.out
  have hz1 := blk_lt M1.out
  have hz0 := blk_lt M0.out
  have d0 := cellsAt M2.out 0
  have d1 := cellsAt M2.out 1
  have d2 := cellsAt M2.out 2
  have d3 := cellsAt M2.out 3
  have fz := frozAt M2.out
  have s0 := cellsAt M0.out 0
  have s1 := cellsAt M0.out 1
  have s2 := cellsAt M0.out 2
  have s3 := cellsAt M0.out 3
  have sz := frozAt M0.out
  have r0 := cellsAt M1.out 0
  have r1 := cellsAt M1.out 1
  have r2 := cellsAt M1.out 2
  have r3 := cellsAt M1.out 3
  have r4 := cellsAt M1.out 4
  simp at d0 d1 d2 d3 s0 s1 s2 s3 r0 r1 r2 r3 r4
  go_wp2_with fail
  have E := set4 M2.out (.slice none 0 0) (.slice none 0 0) (.int .i64 0) (.slice none 0 0)
  have BE := Lib.hid (bel4 B2.out (g := w.heap.size + 1 + 1) (by omega) (.slice none 0 0) (.slice none 0 0) (.int .i64 0) (.slice none 0 0))
  clear d0 d1 d2 d3 fz
  generalize ((((w2.setCell ⟨w.heap.size + 1 + 1, 0, none⟩ (.slice none 0 0)).setCell ⟨w.heap.size + 1 + 1, 1, none⟩ (.slice none 0 0)).setCell ⟨w.heap.size + 1 + 1, 2, none⟩ (.int .i64 0)).setCell ⟨w.heap.size + 1 + 1, 3, none⟩ (.slice none 0 0)) = W6 at *
  have e0 := cellsAt E 0
  have e1 := cellsAt E 1
  have e2 := cellsAt E 2
  have e3 := cellsAt E 3
  simp at e0 e1 e2 e3
  exact bodyPost_ret (v := .tuple #[.agg #[.slice none 0 0, .slice none 0 0, .int .i64 0, .slice none 0 0], .int .i64 1]) (by simp [results, Try.results30, go_sem, e0, e1, e2, e3]) rfl ⟨rfl, BE.out⟩
set_option maxRecDepth 100000 in
set_option maxHeartbeats 2000000 in
theorem sadd_no3 (op : List Res) (st : List Stg) (last : Int) (out : List Res) (r : Res) (v : Value) (w : World) (hv : SinkAt w v op st last out) (h : rightS op st last out = true) (h2 : mayB r = true) (h3 : 20000 ≤ cntS op st out) :
    Calls Try.prog 30 #[v, r.val] w fun e w' => e = .returned (.tuple #[zS, .int .i64 3]) ∧ Below w.heap.size w w' := by
  have HR := Lib.hid (fun v W hW => sright_any op st last out v W hW true h)
  have HM := Lib.hid (fun W => may_any r W true h2)
  have HC := Lib.hid (fun v W hW => count_any op st last out v W hW)
  obtain ⟨cn, hcn⟩ : ∃ cn, cntS op st out = cn := ⟨_, rfl⟩
  rw [hcn] at h3 HC
  clear h h2 hcn
  have HV := Lib.hid hv
  obtain ⟨A1, c1, A2, c2, A3, c3, rfl⟩ := sink_form hv
  obtain ⟨rl, rh, rk, rn, rv⟩ := r
  clear hv
  unfold Res.val at HM ⊢
  unfold zS
  go_enter Try.func30, Try.ntmps30
  go_wp2_with fail
  obtain ⟨W1, hW1⟩ : ∃ W1, W1 = ((w.alloc (.cells #[.slice A1 op.length c1, .slice A2 st.length c2, .int .i64 last, .slice A3 out.length c3] 66)).alloc (.cells #[.int .i64 rl, .int .i64 rh, .string rk, .int .i64 rn, .int .i64 rv] 41)).alloc (.cells #[.slice none 0 0, .slice none 0 0, .int .i64 0, .slice none 0 0] 66) := ⟨_, rfl⟩
  rw [← hW1]
  have BW := Lib.hid (show Below w.heap.size w W1 by rw [hW1]; exact bel_alloc (bel_alloc (bel_alloc (Below.refl _ _) _) _) _)
  have K2 := Lib.hid (show W1.heap[w.heap.size + 1 + 1]? = some (.cells #[.slice none 0 0, .slice none 0 0, .int .i64 0, .slice none 0 0] 66 (0, 0)) by rw [hW1]; exact heap_at _ _ _ (by simp))
  have K1 := Lib.hid (show W1.heap[w.heap.size + 1]? = some (.cells #[.int .i64 rl, .int .i64 rh, .string rk, .int .i64 rn, .int .i64 rv] 41 (0, 0)) by rw [hW1]; exact heap_below (heap_at (w.alloc _) _ (w.heap.size + 1) (by simp)) (bel_alloc (Below.refl _ _) _))
  have K0 := Lib.hid (show W1.heap[w.heap.size]? = some (.cells #[.slice A1 op.length c1, .slice A2 st.length c2, .int .i64 last, .slice A3 out.length c3] 66 (0, 0)) by rw [hW1]; exact newA (bel_alloc (bel_alloc (Below.refl _ _) _) _))
  clear hW1
  refine (HR.out _ _ (HV.out.below BW.out)).mono ?_
  rintro e w1 ⟨rfl, hb1⟩
  have B1 := Lib.hid (bThen BW.out hb1)
  have L0 := Lib.hid (heap_below K0.out hb1)
  have L1 := Lib.hid (heap_below K1.out hb1)
  have L2 := Lib.hid (heap_below K2.out hb1)
  clear hb1 K0 K1 K2
  have hz2 := blk_lt L2.out
  have hz1 := blk_lt L1.out
  have hz0 := blk_lt L0.out
  have d0 := cellsAt L2.out 0
  have d1 := cellsAt L2.out 1
  have d2 := cellsAt L2.out 2
  have d3 := cellsAt L2.out 3
  have fz := frozAt L2.out
  have s0 := cellsAt L0.out 0
  have s1 := cellsAt L0.out 1
  have s2 := cellsAt L0.out 2
  have s3 := cellsAt L0.out 3
  have sz := frozAt L0.out
  have r0 := cellsAt L1.out 0
  have r1 := cellsAt L1.out 1
  have r2 := cellsAt L1.out 2
  have r3 := cellsAt L1.out 3
  have r4 := cellsAt L1.out 4
  simp at d0 d1 d2 d3 s0 s1 s2 s3 r0 r1 r2 r3 r4
  go_wp2_with fail
  refine (HM.out _).mono ?_
  rintro e w2 ⟨rfl, hb2⟩
  have B2 := Lib.hid (bThen B1.out hb2)
  have M0 := Lib.hid (heap_below L0.out hb2)
  have M1 := Lib.hid (heap_below L1.out hb2)
  have M2 := Lib.hid (heap_below L2.out hb2)
  clear hb2 L0 L1 L2
  clear d0 d1 d2 d3 s0 s1 s2 s3 r0 r1 r2 r3 r4 hz0 hz1 hz2 fz sz
  have hz2 := blk_lt M2.out
  have hz1 := blk_lt M1.out
  have hz0 := blk_lt M0.out
  have d0 := cellsAt M2.out 0
  have d1 := cellsAt M2.out 1
  have d2 := cellsAt M2.out 2
  have d3 := cellsAt M2.out 3
  have fz := frozAt M2.out
  have s0 := cellsAt M0.out 0
  have s1 := cellsAt M0.out 1
  have s2 := cellsAt M0.out 2
  have s3 := cellsAt M0.out 3
  have sz := frozAt M0.out
  have r0 := cellsAt M1.out 0
  have r1 := cellsAt M1.out 1
  have r2 := cellsAt M1.out 2
  have r3 := cellsAt M1.out 3
  have r4 := cellsAt M1.out 4
  simp at d0 d1 d2 d3 s0 s1 s2 s3 r0 r1 r2 r3 r4
  go_wp2_with fail
  refine (HC.out _ _ (HV.out.below B2.out)).mono ?_
  rintro e w3 ⟨rfl, hb3⟩
  have B3 := Lib.hid (bThen B2.out hb3)
  have N0 := Lib.hid (heap_below M0.out hb3)
  have N1 := Lib.hid (heap_below M1.out hb3)
  have N2 := Lib.hid (heap_below M2.out hb3)
  clear hb3 M0 M1 M2
  clear d0 d1 d2 d3 s0 s1 s2 s3 r0 r1 r2 r3 r4 hz0 hz1 hz2 fz sz
  have hz2 := blk_lt N2.out
  have hz1 := blk_lt N1.out
  have hz0 := blk_lt N0.out
  have d0 := cellsAt N2.out 0
  have d1 := cellsAt N2.out 1
  have d2 := cellsAt N2.out 2
  have d3 := cellsAt N2.out 3
  have fz := frozAt N2.out
  have s0 := cellsAt N0.out 0
  have s1 := cellsAt N0.out 1
  have s2 := cellsAt N0.out 2
  have s3 := cellsAt N0.out 3
  have sz := frozAt N0.out
  have r0 := cellsAt N1.out 0
  have r1 := cellsAt N1.out 1
  have r2 := cellsAt N1.out 2
  have r3 := cellsAt N1.out 3
  have r4 := cellsAt N1.out 4
  simp at d0 d1 d2 d3 s0 s1 s2 s3 r0 r1 r2 r3 r4
  go_wp2_with fail
  have E := set4 N2.out (.slice none 0 0) (.slice none 0 0) (.int .i64 0) (.slice none 0 0)
  have BE := Lib.hid (bel4 B3.out (g := w.heap.size + 1 + 1) (by omega) (.slice none 0 0) (.slice none 0 0) (.int .i64 0) (.slice none 0 0))
  clear d0 d1 d2 d3 fz
  generalize ((((w3.setCell ⟨w.heap.size + 1 + 1, 0, none⟩ (.slice none 0 0)).setCell ⟨w.heap.size + 1 + 1, 1, none⟩ (.slice none 0 0)).setCell ⟨w.heap.size + 1 + 1, 2, none⟩ (.int .i64 0)).setCell ⟨w.heap.size + 1 + 1, 3, none⟩ (.slice none 0 0)) = W6 at *
  have e0 := cellsAt E 0
  have e1 := cellsAt E 1
  have e2 := cellsAt E 2
  have e3 := cellsAt E 3
  simp at e0 e1 e2 e3
  exact bodyPost_ret (v := .tuple #[.agg #[.slice none 0 0, .slice none 0 0, .int .i64 0, .slice none 0 0], .int .i64 3]) (by simp [results, Try.results30, go_sem, e0, e1, e2, e3]) rfl ⟨rfl, BE.out⟩
end Go.Proofs.Ytenpgkkefielfaa
