/-
  WALKS of layer 19: the program's Stage.
-/
import Derived.Test.YtenpgkkefielfaaSinkW13
import Derived.Deep.RegionLaw
import Derived.Deep.DeepCutAuto
set_option linter.unusedVariables false
set_option linter.unusedSimpArgs false
namespace Go.Proofs.Ytenpgkkefielfaa
open Go.RowKit

set_option maxRecDepth 100000 in
set_option maxHeartbeats 4000000 in
theorem sstage_no1 (op : List Res) (st : List Stg) (last : Int) (out : List Res) (n : Int) (hn : wfL n) (v : Value) (w : World) (hv : SinkAt w v op st last out) (pl : Int) (hp : prevS last st st.length = pl) (h : rightS op st last out = false) :
    Calls Try.prog 32 #[v, .int .i64 n] w fun e w' => e = .returned (.tuple #[zS, .int .i64 1]) ∧ Below w.heap.size w w' := by
  have HR := Lib.hid (fun v W hW => sright_any op st last out v W hW false h)
  obtain ⟨vo, vs, vu, ev, hR1, hR2, hR4, hR3⟩ := hv
  have R1 := Lib.hid hR1
  have R2 := Lib.hid hR2
  have R3 := Lib.hid hR3
  have H4 := Lib.hid hR4
  have hv : SinkAt w v op st last out := ⟨vo, vs, vu, ev, hR1, hR2, hR4, hR3⟩
  clear hR1 hR2 hR3 hR4
  have HV := Lib.hid hv
  obtain ⟨A1, c1, A2, c2, A3, c3, ev2⟩ := sink_form hv
  subst ev2
  injection ev with ev
  injection ev with ev
  simp at ev
  obtain ⟨rfl, rfl, rfl⟩ := ev
  have hl4 := hn
  unfold wfL at hl4
  have HN := Lib.hid hn
  have hls := R2.out.2.2
  unfold maxLen at hls
  clear hv h hn
  unfold zS
  obtain ⟨ls, hls'⟩ : ∃ ls, st.length = ls := ⟨_, rfl⟩
  have HLS := Lib.hid hls'
  rw [hls'] at hls hp HV ⊢
  clear hls'
  rcases Nat.eq_zero_or_pos ls with hz | hz
  · subst hz
    obtain rfl : last = pl := by rw [← hp]; rfl
    clear hp
    go_enter Try.func32, Try.ntmps32
    go_wp2_with fail
    obtain ⟨W1, hW1⟩ : ∃ W1, W1 = (w.alloc (.cells #[.slice A1 op.length c1, .slice A2 0 c2, .int .i64 last, .slice A3 out.length c3] 66)).alloc (.cells #[.slice none 0 0, .slice none 0 0, .int .i64 0, .slice none 0 0] 66) := ⟨_, rfl⟩
    rw [← hW1]
    have BW := Lib.hid (show Below w.heap.size w W1 by rw [hW1]; exact bel_alloc (bel_alloc (Below.refl _ _) _) _)
    have K1 := Lib.hid (show W1.heap[w.heap.size + 1]? = some (.cells #[.slice none 0 0, .slice none 0 0, .int .i64 0, .slice none 0 0] 66 (0, 0)) by rw [hW1]; exact heap_at _ _ _ (by simp))
    have K0 := Lib.hid (show W1.heap[w.heap.size]? = some (.cells #[.slice A1 op.length c1, .slice A2 0 c2, .int .i64 last, .slice A3 out.length c3] 66 (0, 0)) by rw [hW1]; exact newA (bel_alloc (Below.refl _ _) _))
    clear hW1
    refine (HR.out _ _ (HV.out.below BW.out)).mono ?_
    rintro e w1 ⟨rfl, hb1⟩
    have B1 := Lib.hid (bThen BW.out hb1)
    have L0 := Lib.hid (heap_below K0.out hb1)
    have L1 := Lib.hid (heap_below K1.out hb1)
    clear hb1 K0 K1 HV
    have hz1 := blk_lt L1.out
    have hz0 := blk_lt L0.out
    have d0 := cellsAt L1.out 0
    have d1 := cellsAt L1.out 1
    have d2 := cellsAt L1.out 2
    have d3 := cellsAt L1.out 3
    have dz := frozAt L1.out
    simp at d0 d1 d2 d3
    have s0 := cellsAt L0.out 0
    have s1 := cellsAt L0.out 1
    have s2 := cellsAt L0.out 2
    have s3 := cellsAt L0.out 3
    have sz := frozAt L0.out
    simp at s0 s1 s2 s3
    go_wp2_with fail
    have E := set4 L1.out (.slice none 0 0) (.slice none 0 0) (.int .i64 0) (.slice none 0 0)
    have BE := Lib.hid (bel4 B1.out (g := w.heap.size + 1) (by omega) (.slice none 0 0) (.slice none 0 0) (.int .i64 0) (.slice none 0 0))
    clear d0 d1 d2 d3 dz
    generalize ((((w1.setCell ⟨w.heap.size + 1, 0, none⟩ (.slice none 0 0)).setCell ⟨w.heap.size + 1, 1, none⟩ (.slice none 0 0)).setCell ⟨w.heap.size + 1, 2, none⟩ (.int .i64 0)).setCell ⟨w.heap.size + 1, 3, none⟩ (.slice none 0 0)) = W6 at *
    have e0 := cellsAt E 0
    have e1 := cellsAt E 1
    have e2 := cellsAt E 2
    have e3 := cellsAt E 3
    simp at e0 e1 e2 e3
    exact bodyPost_ret (v := .tuple #[.agg #[.slice none 0 0, .slice none 0 0, .int .i64 0, .slice none 0 0], .int .i64 1]) (by simp [results, Try.results32, go_sem, e0, e1, e2, e3]) rfl ⟨rfl, BE.out⟩
  · obtain ⟨m, rfl⟩ : ∃ m, ls = m + 1 := ⟨ls - 1, by omega⟩
    obtain ⟨x, hi⟩ : ∃ x, st[m]? = some x := ⟨_, List.getElem?_eq_getElem (by rw [HLS.out]; omega)⟩
    obtain ⟨b', o, c', e', hc', hb, hX⟩ := R2.out.1.at_ hi
    rw [HLS.out] at e'
    injection e' with e1 _ e3
    subst e1
    clear e3 hc'
    have hx := hX 0 _ rfl
    obtain rfl : x.n = pl := by
      rw [← hp]
      unfold prevS
      rw [if_neg (by omega), Nat.add_sub_cancel, List.getElem!_eq_getElem?_getD, hi]
      rfl
    have HX := Lib.hid hX
    have HIx := Lib.hid hi
    clear hX hi hp
    obtain ⟨pl, px, py⟩ := x
    simp only [Nat.add_zero] at hx
    go_enter Try.func32, Try.ntmps32
    go_wp2_with fail
    obtain ⟨W1, hW1⟩ : ∃ W1, W1 = (w.alloc (.cells #[.slice A1 op.length c1, .slice (some ⟨b', o, none⟩) (m + 1) c2, .int .i64 last, .slice A3 out.length c3] 66)).alloc (.cells #[.slice none 0 0, .slice none 0 0, .int .i64 0, .slice none 0 0] 66) := ⟨_, rfl⟩
    rw [← hW1]
    have BW := Lib.hid (show Below w.heap.size w W1 by rw [hW1]; exact bel_alloc (bel_alloc (Below.refl _ _) _) _)
    have K1 := Lib.hid (show W1.heap[w.heap.size + 1]? = some (.cells #[.slice none 0 0, .slice none 0 0, .int .i64 0, .slice none 0 0] 66 (0, 0)) by rw [hW1]; exact heap_at _ _ _ (by simp))
    have K0 := Lib.hid (show W1.heap[w.heap.size]? = some (.cells #[.slice A1 op.length c1, .slice (some ⟨b', o, none⟩) (m + 1) c2, .int .i64 last, .slice A3 out.length c3] 66 (0, 0)) by rw [hW1]; exact newA (bel_alloc (Below.refl _ _) _))
    clear hW1
    refine (HR.out _ _ (HV.out.below BW.out)).mono ?_
    rintro e w1 ⟨rfl, hb1⟩
    have B1 := Lib.hid (bThen BW.out hb1)
    have L0 := Lib.hid (heap_below K0.out hb1)
    have L1 := Lib.hid (heap_below K1.out hb1)
    clear hb1 K0 K1 HV
    have hz1 := blk_lt L1.out
    have hz0 := blk_lt L0.out
    have d0 := cellsAt L1.out 0
    have d1 := cellsAt L1.out 1
    have d2 := cellsAt L1.out 2
    have d3 := cellsAt L1.out 3
    have dz := frozAt L1.out
    simp at d0 d1 d2 d3
    have s0 := cellsAt L0.out 0
    have s1 := cellsAt L0.out 1
    have s2 := cellsAt L0.out 2
    have s3 := cellsAt L0.out 3
    have sz := frozAt L0.out
    simp at s0 s1 s2 s3
    go_wp2_with fail
    have E := set4 L1.out (.slice none 0 0) (.slice none 0 0) (.int .i64 0) (.slice none 0 0)
    have BE := Lib.hid (bel4 B1.out (g := w.heap.size + 1) (by omega) (.slice none 0 0) (.slice none 0 0) (.int .i64 0) (.slice none 0 0))
    clear d0 d1 d2 d3 dz
    generalize ((((w1.setCell ⟨w.heap.size + 1, 0, none⟩ (.slice none 0 0)).setCell ⟨w.heap.size + 1, 1, none⟩ (.slice none 0 0)).setCell ⟨w.heap.size + 1, 2, none⟩ (.int .i64 0)).setCell ⟨w.heap.size + 1, 3, none⟩ (.slice none 0 0)) = W6 at *
    have e0 := cellsAt E 0
    have e1 := cellsAt E 1
    have e2 := cellsAt E 2
    have e3 := cellsAt E 3
    simp at e0 e1 e2 e3
    exact bodyPost_ret (v := .tuple #[.agg #[.slice none 0 0, .slice none 0 0, .int .i64 0, .slice none 0 0], .int .i64 1]) (by simp [results, Try.results32, go_sem, e0, e1, e2, e3]) rfl ⟨rfl, BE.out⟩
set_option maxRecDepth 100000 in
set_option maxHeartbeats 4000000 in
theorem sstage_no2 (op : List Res) (st : List Stg) (last : Int) (out : List Res) (n : Int) (hn : wfL n) (v : Value) (w : World) (hv : SinkAt w v op st last out) (pl : Int) (hp : prevS last st st.length = pl) (h : rightS op st last out = true) (h2 : 1073741824 < n) :
    Calls Try.prog 32 #[v, .int .i64 n] w fun e w' => e = .returned (.tuple #[zS, .int .i64 1]) ∧ Below w.heap.size w w' := by
  have HR := Lib.hid (fun v W hW => sright_any op st last out v W hW true h)
  obtain ⟨vo, vs, vu, ev, hR1, hR2, hR4, hR3⟩ := hv
  have R1 := Lib.hid hR1
  have R2 := Lib.hid hR2
  have R3 := Lib.hid hR3
  have H4 := Lib.hid hR4
  have hv : SinkAt w v op st last out := ⟨vo, vs, vu, ev, hR1, hR2, hR4, hR3⟩
  clear hR1 hR2 hR3 hR4
  have HV := Lib.hid hv
  obtain ⟨A1, c1, A2, c2, A3, c3, ev2⟩ := sink_form hv
  subst ev2
  injection ev with ev
  injection ev with ev
  simp at ev
  obtain ⟨rfl, rfl, rfl⟩ := ev
  have hl4 := hn
  unfold wfL at hl4
  have HN := Lib.hid hn
  have hls := R2.out.2.2
  unfold maxLen at hls
  clear hv h hn
  unfold zS
  obtain ⟨ls, hls'⟩ : ∃ ls, st.length = ls := ⟨_, rfl⟩
  have HLS := Lib.hid hls'
  rw [hls'] at hls hp HV ⊢
  clear hls'
  rcases Nat.eq_zero_or_pos ls with hz | hz
  · subst hz
    obtain rfl : last = pl := by rw [← hp]; rfl
    clear hp
    go_enter Try.func32, Try.ntmps32
    go_wp2_with fail
    obtain ⟨W1, hW1⟩ : ∃ W1, W1 = (w.alloc (.cells #[.slice A1 op.length c1, .slice A2 0 c2, .int .i64 last, .slice A3 out.length c3] 66)).alloc (.cells #[.slice none 0 0, .slice none 0 0, .int .i64 0, .slice none 0 0] 66) := ⟨_, rfl⟩
    rw [← hW1]
    have BW := Lib.hid (show Below w.heap.size w W1 by rw [hW1]; exact bel_alloc (bel_alloc (Below.refl _ _) _) _)
    have K1 := Lib.hid (show W1.heap[w.heap.size + 1]? = some (.cells #[.slice none 0 0, .slice none 0 0, .int .i64 0, .slice none 0 0] 66 (0, 0)) by rw [hW1]; exact heap_at _ _ _ (by simp))
    have K0 := Lib.hid (show W1.heap[w.heap.size]? = some (.cells #[.slice A1 op.length c1, .slice A2 0 c2, .int .i64 last, .slice A3 out.length c3] 66 (0, 0)) by rw [hW1]; exact newA (bel_alloc (Below.refl _ _) _))
    clear hW1
    refine (HR.out _ _ (HV.out.below BW.out)).mono ?_
    rintro e w1 ⟨rfl, hb1⟩
    have B1 := Lib.hid (bThen BW.out hb1)
    have L0 := Lib.hid (heap_below K0.out hb1)
    have L1 := Lib.hid (heap_below K1.out hb1)
    clear hb1 K0 K1 HV
    have hz1 := blk_lt L1.out
    have hz0 := blk_lt L0.out
    have d0 := cellsAt L1.out 0
    have d1 := cellsAt L1.out 1
    have d2 := cellsAt L1.out 2
    have d3 := cellsAt L1.out 3
    have dz := frozAt L1.out
    simp at d0 d1 d2 d3
    have s0 := cellsAt L0.out 0
    have s1 := cellsAt L0.out 1
    have s2 := cellsAt L0.out 2
    have s3 := cellsAt L0.out 3
    have sz := frozAt L0.out
    simp at s0 s1 s2 s3
    go_wp2_with fail
    have E := set4 L1.out (.slice none 0 0) (.slice none 0 0) (.int .i64 0) (.slice none 0 0)
    have BE := Lib.hid (bel4 B1.out (g := w.heap.size + 1) (by omega) (.slice none 0 0) (.slice none 0 0) (.int .i64 0) (.slice none 0 0))
    clear d0 d1 d2 d3 dz
    generalize ((((w1.setCell ⟨w.heap.size + 1, 0, none⟩ (.slice none 0 0)).setCell ⟨w.heap.size + 1, 1, none⟩ (.slice none 0 0)).setCell ⟨w.heap.size + 1, 2, none⟩ (.int .i64 0)).setCell ⟨w.heap.size + 1, 3, none⟩ (.slice none 0 0)) = W6 at *
    have e0 := cellsAt E 0
    have e1 := cellsAt E 1
    have e2 := cellsAt E 2
    have e3 := cellsAt E 3
    simp at e0 e1 e2 e3
    exact bodyPost_ret (v := .tuple #[.agg #[.slice none 0 0, .slice none 0 0, .int .i64 0, .slice none 0 0], .int .i64 1]) (by simp [results, Try.results32, go_sem, e0, e1, e2, e3]) rfl ⟨rfl, BE.out⟩
  · obtain ⟨m, rfl⟩ : ∃ m, ls = m + 1 := ⟨ls - 1, by omega⟩
    obtain ⟨x, hi⟩ : ∃ x, st[m]? = some x := ⟨_, List.getElem?_eq_getElem (by rw [HLS.out]; omega)⟩
    obtain ⟨b', o, c', e', hc', hb, hX⟩ := R2.out.1.at_ hi
    rw [HLS.out] at e'
    injection e' with e1 _ e3
    subst e1
    clear e3 hc'
    have hx := hX 0 _ rfl
    obtain rfl : x.n = pl := by
      rw [← hp]
      unfold prevS
      rw [if_neg (by omega), Nat.add_sub_cancel, List.getElem!_eq_getElem?_getD, hi]
      rfl
    have HX := Lib.hid hX
    have HIx := Lib.hid hi
    clear hX hi hp
    obtain ⟨pl, px, py⟩ := x
    simp only [Nat.add_zero] at hx
    go_enter Try.func32, Try.ntmps32
    go_wp2_with fail
    obtain ⟨W1, hW1⟩ : ∃ W1, W1 = (w.alloc (.cells #[.slice A1 op.length c1, .slice (some ⟨b', o, none⟩) (m + 1) c2, .int .i64 last, .slice A3 out.length c3] 66)).alloc (.cells #[.slice none 0 0, .slice none 0 0, .int .i64 0, .slice none 0 0] 66) := ⟨_, rfl⟩
    rw [← hW1]
    have BW := Lib.hid (show Below w.heap.size w W1 by rw [hW1]; exact bel_alloc (bel_alloc (Below.refl _ _) _) _)
    have K1 := Lib.hid (show W1.heap[w.heap.size + 1]? = some (.cells #[.slice none 0 0, .slice none 0 0, .int .i64 0, .slice none 0 0] 66 (0, 0)) by rw [hW1]; exact heap_at _ _ _ (by simp))
    have K0 := Lib.hid (show W1.heap[w.heap.size]? = some (.cells #[.slice A1 op.length c1, .slice (some ⟨b', o, none⟩) (m + 1) c2, .int .i64 last, .slice A3 out.length c3] 66 (0, 0)) by rw [hW1]; exact newA (bel_alloc (Below.refl _ _) _))
    clear hW1
    refine (HR.out _ _ (HV.out.below BW.out)).mono ?_
    rintro e w1 ⟨rfl, hb1⟩
    have B1 := Lib.hid (bThen BW.out hb1)
    have L0 := Lib.hid (heap_below K0.out hb1)
    have L1 := Lib.hid (heap_below K1.out hb1)
    clear hb1 K0 K1 HV
    have hz1 := blk_lt L1.out
    have hz0 := blk_lt L0.out
    have d0 := cellsAt L1.out 0
    have d1 := cellsAt L1.out 1
    have d2 := cellsAt L1.out 2
    have d3 := cellsAt L1.out 3
    have dz := frozAt L1.out
    simp at d0 d1 d2 d3
    have s0 := cellsAt L0.out 0
    have s1 := cellsAt L0.out 1
    have s2 := cellsAt L0.out 2
    have s3 := cellsAt L0.out 3
    have sz := frozAt L0.out
    simp at s0 s1 s2 s3
    go_wp2_with fail
    have E := set4 L1.out (.slice none 0 0) (.slice none 0 0) (.int .i64 0) (.slice none 0 0)
    have BE := Lib.hid (bel4 B1.out (g := w.heap.size + 1) (by omega) (.slice none 0 0) (.slice none 0 0) (.int .i64 0) (.slice none 0 0))
    clear d0 d1 d2 d3 dz
    generalize ((((w1.setCell ⟨w.heap.size + 1, 0, none⟩ (.slice none 0 0)).setCell ⟨w.heap.size + 1, 1, none⟩ (.slice none 0 0)).setCell ⟨w.heap.size + 1, 2, none⟩ (.int .i64 0)).setCell ⟨w.heap.size + 1, 3, none⟩ (.slice none 0 0)) = W6 at *
    have e0 := cellsAt E 0
    have e1 := cellsAt E 1
    have e2 := cellsAt E 2
    have e3 := cellsAt E 3
    simp at e0 e1 e2 e3
    exact bodyPost_ret (v := .tuple #[.agg #[.slice none 0 0, .slice none 0 0, .int .i64 0, .slice none 0 0], .int .i64 1]) (by simp [results, Try.results32, go_sem, e0, e1, e2, e3]) rfl ⟨rfl, BE.out⟩
set_option maxRecDepth 100000 in
set_option maxHeartbeats 4000000 in
theorem sstage_no3 (op : List Res) (st : List Stg) (last : Int) (out : List Res) (n : Int) (hn : wfL n) (v : Value) (w : World) (hv : SinkAt w v op st last out) (pl : Int) (hp : prevS last st st.length = pl) (h : rightS op st last out = true) (h2 : n ≤ 1073741824) (h3 : n ≤ pl) :
    Calls Try.prog 32 #[v, .int .i64 n] w fun e w' => e = .returned (.tuple #[zS, .int .i64 190]) ∧ Below w.heap.size w w' := by
  have HR := Lib.hid (fun v W hW => sright_any op st last out v W hW true h)
  obtain ⟨vo, vs, vu, ev, hR1, hR2, hR4, hR3⟩ := hv
  have R1 := Lib.hid hR1
  have R2 := Lib.hid hR2
  have R3 := Lib.hid hR3
  have H4 := Lib.hid hR4
  have hv : SinkAt w v op st last out := ⟨vo, vs, vu, ev, hR1, hR2, hR4, hR3⟩
  clear hR1 hR2 hR3 hR4
  have HV := Lib.hid hv
  obtain ⟨A1, c1, A2, c2, A3, c3, ev2⟩ := sink_form hv
  subst ev2
  injection ev with ev
  injection ev with ev
  simp at ev
  obtain ⟨rfl, rfl, rfl⟩ := ev
  have hl4 := hn
  unfold wfL at hl4
  have HN := Lib.hid hn
  have hls := R2.out.2.2
  unfold maxLen at hls
  clear hv h hn
  unfold zS
  obtain ⟨ls, hls'⟩ : ∃ ls, st.length = ls := ⟨_, rfl⟩
  have HLS := Lib.hid hls'
  rw [hls'] at hls hp HV ⊢
  clear hls'
  rcases Nat.eq_zero_or_pos ls with hz | hz
  · subst hz
    obtain rfl : last = pl := by rw [← hp]; rfl
    clear hp
    go_enter Try.func32, Try.ntmps32
    go_wp2_with fail
    obtain ⟨W1, hW1⟩ : ∃ W1, W1 = (w.alloc (.cells #[.slice A1 op.length c1, .slice A2 0 c2, .int .i64 last, .slice A3 out.length c3] 66)).alloc (.cells #[.slice none 0 0, .slice none 0 0, .int .i64 0, .slice none 0 0] 66) := ⟨_, rfl⟩
    rw [← hW1]
    have BW := Lib.hid (show Below w.heap.size w W1 by rw [hW1]; exact bel_alloc (bel_alloc (Below.refl _ _) _) _)
    have K1 := Lib.hid (show W1.heap[w.heap.size + 1]? = some (.cells #[.slice none 0 0, .slice none 0 0, .int .i64 0, .slice none 0 0] 66 (0, 0)) by rw [hW1]; exact heap_at _ _ _ (by simp))
    have K0 := Lib.hid (show W1.heap[w.heap.size]? = some (.cells #[.slice A1 op.length c1, .slice A2 0 c2, .int .i64 last, .slice A3 out.length c3] 66 (0, 0)) by rw [hW1]; exact newA (bel_alloc (Below.refl _ _) _))
    clear hW1
    refine (HR.out _ _ (HV.out.below BW.out)).mono ?_
    rintro e w1 ⟨rfl, hb1⟩
    have B1 := Lib.hid (bThen BW.out hb1)
    have L0 := Lib.hid (heap_below K0.out hb1)
    have L1 := Lib.hid (heap_below K1.out hb1)
    clear hb1 K0 K1 HV
    have hz1 := blk_lt L1.out
    have hz0 := blk_lt L0.out
    have d0 := cellsAt L1.out 0
    have d1 := cellsAt L1.out 1
    have d2 := cellsAt L1.out 2
    have d3 := cellsAt L1.out 3
    have dz := frozAt L1.out
    simp at d0 d1 d2 d3
    have s0 := cellsAt L0.out 0
    have s1 := cellsAt L0.out 1
    have s2 := cellsAt L0.out 2
    have s3 := cellsAt L0.out 3
    have sz := frozAt L0.out
    simp at s0 s1 s2 s3
    go_wp2_with fail
    have E := set4 L1.out (.slice none 0 0) (.slice none 0 0) (.int .i64 0) (.slice none 0 0)
    have BE := Lib.hid (bel4 B1.out (g := w.heap.size + 1) (by omega) (.slice none 0 0) (.slice none 0 0) (.int .i64 0) (.slice none 0 0))
    clear d0 d1 d2 d3 dz
    generalize ((((w1.setCell ⟨w.heap.size + 1, 0, none⟩ (.slice none 0 0)).setCell ⟨w.heap.size + 1, 1, none⟩ (.slice none 0 0)).setCell ⟨w.heap.size + 1, 2, none⟩ (.int .i64 0)).setCell ⟨w.heap.size + 1, 3, none⟩ (.slice none 0 0)) = W6 at *
    have e0 := cellsAt E 0
    have e1 := cellsAt E 1
    have e2 := cellsAt E 2
    have e3 := cellsAt E 3
    simp at e0 e1 e2 e3
    exact bodyPost_ret (v := .tuple #[.agg #[.slice none 0 0, .slice none 0 0, .int .i64 0, .slice none 0 0], .int .i64 190]) (by simp [results, Try.results32, go_sem, e0, e1, e2, e3]) rfl ⟨rfl, BE.out⟩
  · obtain ⟨m, rfl⟩ : ∃ m, ls = m + 1 := ⟨ls - 1, by omega⟩
    obtain ⟨x, hi⟩ : ∃ x, st[m]? = some x := ⟨_, List.getElem?_eq_getElem (by rw [HLS.out]; omega)⟩
    obtain ⟨b', o, c', e', hc', hb, hX⟩ := R2.out.1.at_ hi
    rw [HLS.out] at e'
    injection e' with e1 _ e3
    subst e1
    clear e3 hc'
    have hx := hX 0 _ rfl
    obtain rfl : x.n = pl := by
      rw [← hp]
      unfold prevS
      rw [if_neg (by omega), Nat.add_sub_cancel, List.getElem!_eq_getElem?_getD, hi]
      rfl
    have HX := Lib.hid hX
    have HIx := Lib.hid hi
    clear hX hi hp
    obtain ⟨pl, px, py⟩ := x
    simp only [Nat.add_zero] at hx
    simp only at h3
    go_enter Try.func32, Try.ntmps32
    go_wp2_with fail
    obtain ⟨W1, hW1⟩ : ∃ W1, W1 = (w.alloc (.cells #[.slice A1 op.length c1, .slice (some ⟨b', o, none⟩) (m + 1) c2, .int .i64 last, .slice A3 out.length c3] 66)).alloc (.cells #[.slice none 0 0, .slice none 0 0, .int .i64 0, .slice none 0 0] 66) := ⟨_, rfl⟩
    rw [← hW1]
    have BW := Lib.hid (show Below w.heap.size w W1 by rw [hW1]; exact bel_alloc (bel_alloc (Below.refl _ _) _) _)
    have K1 := Lib.hid (show W1.heap[w.heap.size + 1]? = some (.cells #[.slice none 0 0, .slice none 0 0, .int .i64 0, .slice none 0 0] 66 (0, 0)) by rw [hW1]; exact heap_at _ _ _ (by simp))
    have K0 := Lib.hid (show W1.heap[w.heap.size]? = some (.cells #[.slice A1 op.length c1, .slice (some ⟨b', o, none⟩) (m + 1) c2, .int .i64 last, .slice A3 out.length c3] 66 (0, 0)) by rw [hW1]; exact newA (bel_alloc (Below.refl _ _) _))
    clear hW1
    refine (HR.out _ _ (HV.out.below BW.out)).mono ?_
    rintro e w1 ⟨rfl, hb1⟩
    have B1 := Lib.hid (bThen BW.out hb1)
    have L0 := Lib.hid (heap_below K0.out hb1)
    have L1 := Lib.hid (heap_below K1.out hb1)
    clear hb1 K0 K1 HV
    have hz1 := blk_lt L1.out
    have hz0 := blk_lt L0.out
    have d0 := cellsAt L1.out 0
    have d1 := cellsAt L1.out 1
    have d2 := cellsAt L1.out 2
    have d3 := cellsAt L1.out 3
    have dz := frozAt L1.out
    simp at d0 d1 d2 d3
    have s0 := cellsAt L0.out 0
    have s1 := cellsAt L0.out 1
    have s2 := cellsAt L0.out 2
    have s3 := cellsAt L0.out 3
    have sz := frozAt L0.out
    simp at s0 s1 s2 s3
    go_wp2_with fail
    have E := set4 L1.out (.slice none 0 0) (.slice none 0 0) (.int .i64 0) (.slice none 0 0)
    have BE := Lib.hid (bel4 B1.out (g := w.heap.size + 1) (by omega) (.slice none 0 0) (.slice none 0 0) (.int .i64 0) (.slice none 0 0))
    clear d0 d1 d2 d3 dz
    generalize ((((w1.setCell ⟨w.heap.size + 1, 0, none⟩ (.slice none 0 0)).setCell ⟨w.heap.size + 1, 1, none⟩ (.slice none 0 0)).setCell ⟨w.heap.size + 1, 2, none⟩ (.int .i64 0)).setCell ⟨w.heap.size + 1, 3, none⟩ (.slice none 0 0)) = W6 at *
    have e0 := cellsAt E 0
    have e1 := cellsAt E 1
    have e2 := cellsAt E 2
    have e3 := cellsAt E 3
    simp at e0 e1 e2 e3
    exact bodyPost_ret (v := .tuple #[.agg #[.slice none 0 0, .slice none 0 0, .int .i64 0, .slice none 0 0], .int .i64 190]) (by simp [results, Try.results32, go_sem, e0, e1, e2, e3]) rfl ⟨rfl, BE.out⟩
set_option maxRecDepth 100000 in
set_option maxHeartbeats 4000000 in
theorem sstage_no4 (op : List Res) (st : List Stg) (last : Int) (out : List Res) (n : Int) (hn : wfL n) (v : Value) (w : World) (hv : SinkAt w v op st last out) (pl : Int) (hp : prevS last st st.length = pl) (h : rightS op st last out = true) (h2 : n ≤ 1073741824) (h3 : pl < n) (h4 : 8 ≤ st.length) :
    Calls Try.prog 32 #[v, .int .i64 n] w fun e w' => e = .returned (.tuple #[zS, .int .i64 3]) ∧ Below w.heap.size w w' := by
  have HR := Lib.hid (fun v W hW => sright_any op st last out v W hW true h)
  obtain ⟨vo, vs, vu, ev, hR1, hR2, hR4, hR3⟩ := hv
  have R1 := Lib.hid hR1
  have R2 := Lib.hid hR2
  have R3 := Lib.hid hR3
  have H4 := Lib.hid hR4
  have hv : SinkAt w v op st last out := ⟨vo, vs, vu, ev, hR1, hR2, hR4, hR3⟩
  clear hR1 hR2 hR3 hR4
  have HV := Lib.hid hv
  obtain ⟨A1, c1, A2, c2, A3, c3, ev2⟩ := sink_form hv
  subst ev2
  injection ev with ev
  injection ev with ev
  simp at ev
  obtain ⟨rfl, rfl, rfl⟩ := ev
  have hl4 := hn
  unfold wfL at hl4
  have HN := Lib.hid hn
  have hls := R2.out.2.2
  unfold maxLen at hls
  clear hv h hn
  unfold zS
  obtain ⟨ls, hls'⟩ : ∃ ls, st.length = ls := ⟨_, rfl⟩
  have HLS := Lib.hid hls'
  rw [hls'] at hls hp HV h4 ⊢
  clear hls'
  rcases Nat.eq_zero_or_pos ls with hz | hz
  · exfalso; omega
  · obtain ⟨m, rfl⟩ : ∃ m, ls = m + 1 := ⟨ls - 1, by omega⟩
    obtain ⟨x, hi⟩ : ∃ x, st[m]? = some x := ⟨_, List.getElem?_eq_getElem (by rw [HLS.out]; omega)⟩
    obtain ⟨b', o, c', e', hc', hb, hX⟩ := R2.out.1.at_ hi
    rw [HLS.out] at e'
    injection e' with e1 _ e3
    subst e1
    clear e3 hc'
    have hx := hX 0 _ rfl
    obtain rfl : x.n = pl := by
      rw [← hp]
      unfold prevS
      rw [if_neg (by omega), Nat.add_sub_cancel, List.getElem!_eq_getElem?_getD, hi]
      rfl
    have HX := Lib.hid hX
    have HIx := Lib.hid hi
    clear hX hi hp
    obtain ⟨pl, px, py⟩ := x
    simp only [Nat.add_zero] at hx
    simp only at h3
    go_enter Try.func32, Try.ntmps32
    go_wp2_with fail
    obtain ⟨W1, hW1⟩ : ∃ W1, W1 = (w.alloc (.cells #[.slice A1 op.length c1, .slice (some ⟨b', o, none⟩) (m + 1) c2, .int .i64 last, .slice A3 out.length c3] 66)).alloc (.cells #[.slice none 0 0, .slice none 0 0, .int .i64 0, .slice none 0 0] 66) := ⟨_, rfl⟩
    rw [← hW1]
    have BW := Lib.hid (show Below w.heap.size w W1 by rw [hW1]; exact bel_alloc (bel_alloc (Below.refl _ _) _) _)
    have K1 := Lib.hid (show W1.heap[w.heap.size + 1]? = some (.cells #[.slice none 0 0, .slice none 0 0, .int .i64 0, .slice none 0 0] 66 (0, 0)) by rw [hW1]; exact heap_at _ _ _ (by simp))
    have K0 := Lib.hid (show W1.heap[w.heap.size]? = some (.cells #[.slice A1 op.length c1, .slice (some ⟨b', o, none⟩) (m + 1) c2, .int .i64 last, .slice A3 out.length c3] 66 (0, 0)) by rw [hW1]; exact newA (bel_alloc (Below.refl _ _) _))
    clear hW1
    refine (HR.out _ _ (HV.out.below BW.out)).mono ?_
    rintro e w1 ⟨rfl, hb1⟩
    have B1 := Lib.hid (bThen BW.out hb1)
    have L0 := Lib.hid (heap_below K0.out hb1)
    have L1 := Lib.hid (heap_below K1.out hb1)
    clear hb1 K0 K1 HV
    have hz1 := blk_lt L1.out
    have hz0 := blk_lt L0.out
    have d0 := cellsAt L1.out 0
    have d1 := cellsAt L1.out 1
    have d2 := cellsAt L1.out 2
    have d3 := cellsAt L1.out 3
    have dz := frozAt L1.out
    simp at d0 d1 d2 d3
    have s0 := cellsAt L0.out 0
    have s1 := cellsAt L0.out 1
    have s2 := cellsAt L0.out 2
    have s3 := cellsAt L0.out 3
    have sz := frozAt L0.out
    simp at s0 s1 s2 s3
    go_wp2_with fail
    have E := set4 L1.out (.slice none 0 0) (.slice none 0 0) (.int .i64 0) (.slice none 0 0)
    have BE := Lib.hid (bel4 B1.out (g := w.heap.size + 1) (by omega) (.slice none 0 0) (.slice none 0 0) (.int .i64 0) (.slice none 0 0))
    clear d0 d1 d2 d3 dz
    generalize ((((w1.setCell ⟨w.heap.size + 1, 0, none⟩ (.slice none 0 0)).setCell ⟨w.heap.size + 1, 1, none⟩ (.slice none 0 0)).setCell ⟨w.heap.size + 1, 2, none⟩ (.int .i64 0)).setCell ⟨w.heap.size + 1, 3, none⟩ (.slice none 0 0)) = W6 at *
    have e0 := cellsAt E 0
    have e1 := cellsAt E 1
    have e2 := cellsAt E 2
    have e3 := cellsAt E 3
    simp at e0 e1 e2 e3
    exact bodyPost_ret (v := .tuple #[.agg #[.slice none 0 0, .slice none 0 0, .int .i64 0, .slice none 0 0], .int .i64 3]) (by simp [results, Try.results32, go_sem, e0, e1, e2, e3]) rfl ⟨rfl, BE.out⟩
end Go.Proofs.Ytenpgkkefielfaa
