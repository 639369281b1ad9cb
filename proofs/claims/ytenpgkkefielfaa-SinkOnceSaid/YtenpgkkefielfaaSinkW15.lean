/-
  WALKS of layer 19: the program's Stage that takes.
-/
import Derived.Test.YtenpgkkefielfaaSinkW14
import Derived.Deep.RegionLaw
import Derived.Deep.DeepCutAuto
set_option linter.unusedVariables false
set_option linter.unusedSimpArgs false
namespace Go.Proofs.Ytenpgkkefielfaa
open Go.RowKit

set_option maxRecDepth 100000 in
set_option maxHeartbeats 4000000 in
theorem sstage_yes (op : List Res) (st : List Stg) (last : Int) (out : List Res) (n : Int) (hn : wfL n) (v : Value) (w : World) (hv : SinkAt w v op st last out) (pl : Int) (hp : prevS last st st.length = pl) (h : rightS op st last out = true) (h2 : n ≤ 1073741824) (h3 : pl < n) (h4 : st.length < 8) :
    Calls Try.prog 32 #[v, .int .i64 n] w fun e w' => (∃ v' vo, e = .returned (.tuple #[v', .int .i64 0]) ∧ SinkAt w' v' [] (st ++ [⟨n, vo, op⟩]) last out ∧ LocK w w' v v' ∧ ∃ vs l vu, v = .agg #[vo, vs, l, vu]) ∧ Below w.heap.size w w' := by
  have HR := Lib.hid (fun v W hW => sright_any op st last out v W hW true h)
  obtain ⟨vo, vs, vu, ev, hR1, hR2, hR4, hR3⟩ := hv
  have R1 := Lib.hid hR1
  have R2 := Lib.hid hR2
  have R3 := Lib.hid hR3
  have H4 := Lib.hid hR4
  have hv : SinkAt w v op st last out := ⟨vo, vs, vu, ev, hR1, hR2, hR4, hR3⟩
  clear hR1 hR2 hR3 hR4
  have HV := Lib.hid hv
  obtain ⟨A1, c1, A2, c2, A3, c3, ev2⟩ := sink_form hv
  subst ev2
  injection ev with ev
  injection ev with ev
  simp at ev
  obtain ⟨rfl, rfl, rfl⟩ := ev
  have hl4 := hn
  unfold wfL at hl4
  have HN := Lib.hid hn
  have hls := R2.out.2.2
  unfold maxLen at hls
  clear hv h hn
  have HK := Lib.hid (fun v W hW => cloneS_any st v W hW (by omega) (Stg.cs_one R2.out.2.1))
  obtain ⟨i0, hi, hi0, hi1, hi2⟩ := info_parts info_sg
  have HI := Lib.hid hi
  have HZ0 := Lib.hid hi0
  have HZ1 := Lib.hid hi1
  have HZ2 := Lib.hid hi2
  clear hi hi0 hi1 hi2
  obtain ⟨ls, hls'⟩ : ∃ ls, st.length = ls := ⟨_, rfl⟩
  have HLS := Lib.hid hls'
  rw [hls'] at hls hp HV h4 ⊢
  clear hls'
  rcases Nat.eq_zero_or_pos ls with hz | hz
  · subst hz
    obtain rfl : last = pl := by rw [← hp]; rfl
    clear hp
    go_enter Try.func32, Try.ntmps32
    go_wp2_with fail
    obtain ⟨W1, hW1⟩ : ∃ W1, W1 = (w.alloc (.cells #[.slice A1 op.length c1, .slice A2 0 c2, .int .i64 last, .slice A3 out.length c3] 66)).alloc (.cells #[.slice none 0 0, .slice none 0 0, .int .i64 0, .slice none 0 0] 66) := ⟨_, rfl⟩
    rw [← hW1]
    have BW := Lib.hid (show Below w.heap.size w W1 by rw [hW1]; exact bel_alloc (bel_alloc (Below.refl _ _) _) _)
    have K1 := Lib.hid (show W1.heap[w.heap.size + 1]? = some (.cells #[.slice none 0 0, .slice none 0 0, .int .i64 0, .slice none 0 0] 66 (0, 0)) by rw [hW1]; exact heap_at _ _ _ (by simp))
    have K0 := Lib.hid (show W1.heap[w.heap.size]? = some (.cells #[.slice A1 op.length c1, .slice A2 0 c2, .int .i64 last, .slice A3 out.length c3] 66 (0, 0)) by rw [hW1]; exact newA (bel_alloc (Below.refl _ _) _))
    clear hW1
    refine (HR.out _ _ (HV.out.below BW.out)).mono ?_
    rintro e w1 ⟨rfl, hb1⟩
    have B1 := Lib.hid (bThen BW.out hb1)
    have L0 := Lib.hid (heap_below K0.out hb1)
    have L1 := Lib.hid (heap_below K1.out hb1)
    clear hb1 K0 K1 HV
    have hz1 := blk_lt L1.out
    have hz0 := blk_lt L0.out
    have d0 := cellsAt L1.out 0
    have d1 := cellsAt L1.out 1
    have d2 := cellsAt L1.out 2
    have d3 := cellsAt L1.out 3
    have dz := frozAt L1.out
    simp at d0 d1 d2 d3
    have s0 := cellsAt L0.out 0
    have s1 := cellsAt L0.out 1
    have s2 := cellsAt L0.out 2
    have s3 := cellsAt L0.out 3
    have sz := frozAt L0.out
    simp at s0 s1 s2 s3
    go_wp2_with fail
    have R2' : Row Stg.cs 2 w1 (.slice A2 0 c2) st := by have := R2.out.1.below B1.out; rw [HLS.out] at this; exact this
    go_region_law (first | (go_simp; go_at_call 59; refine (HK.out _ _ (by first | assumption | exact Row.alloc (by assumption) _)).mono ?_; rintro e w4 ⟨v4, rfl, hown, hb4⟩; obtain ⟨A4, c4, rfl⟩ := own_slice hown; (try have q6 := (hb4.cell (p := ⟨w.heap.size, 0, none⟩) (by assumption)).trans (by assumption : _ = some (Value.slice A1 op.length c1))); have q7 := hb4.size) | (refine step_own rfl _ _ 64 rfl _ 85 i0 (.agg #[.int .i64 0, .slice none 0 0]) 2 32 Try.underlying64 HI.out HZ0.out HZ1.out HZ2.out rfl (by decide) _ _ _ rfl (by first | exact hown | exact hown.alloc _) _ 1 1 [.int .i64 n, .slice A1 op.length c1] rfl rfl (by intro j u hj; match j, hj with | 0, hj | 1, hj => (simp at hj; subst hj; first | (simp [Addr.add]; done) | (refine (hb4.cell (by simp [Addr.add])).trans ?_; simp [Addr.add]))) (by intro u hu; simp at hu; rcases hu with rfl | rfl <;> rfl) (by unfold maxLen; have := HLS.out; omega) (by have := HLS.out; omega) (by have q7 := hb4.size; simp at q7 ⊢; omega) ?_; intro v5 W5 hown5 hgrow5 _; obtain ⟨A5, c5, rfl⟩ := own_slice hown5; have BG : Below w1.heap.size w1 W5 := (by first | exact bUndrew ((bel_alloc hb4 _).grown hgrow5 (by have q7 := hb4.size; simp at q7 ⊢; try omega) (fun q hq => by have := (hown.lt _ hq).1; simp at this ⊢; omega)) | exact ((belA (Below.refl _ _) (bUndrew hb4)).grown hgrow5 (by have q7 := hb4.size; simp at q7 ⊢; try omega) (fun q hq => by have := (hown.lt _ hq).1; simp at this ⊢; omega))); have q8 := (BG.cell (p := ⟨w.heap.size, 1, none⟩) hz0).trans s1; have q9 := (BG.frozen (p := ⟨w.heap.size, 1, none⟩) hz0).trans (sz 1)))
    all_goals
      have P1 := (Below.heap_setCell W5 ⟨w.heap.size, 1, none⟩ (.slice A5 (st.length + 1) c5) (w.heap.size + 1) (by simp)).trans (heap_below L1.out BG)
      have P0 := blk_set (heap_below L0.out BG) 1 (.slice A5 (st.length + 1) c5)
      have BS := Lib.hid ((bThen B1.out BG).setCell (p := ⟨w.heap.size, 1, none⟩) (Nat.le_refl _) (.slice A5 (st.length + 1) c5))
      have hsz4 := hb4.size
      have HO5 := Lib.hid (own_base (own_set hown5 (p := ⟨w.heap.size, 1, none⟩) (by show w.heap.size < _; simp; try omega) (.slice A5 (st.length + 1) c5)) (by show w.heap.size + 1 + 1 ≤ _; simp; try omega))
      clear BG q8 q9 hown5 hgrow5 hb4 hown hsz4
      simp at P0
      generalize W5.setCell ⟨w.heap.size, 1, none⟩ (.slice A5 (st.length + 1) c5) = W6 at *
      have s0' := cellsAt P0 0
      have s1' := cellsAt P0 1
      have s2' := cellsAt P0 2
      have s3' := cellsAt P0 3
      have d0' := cellsAt P1 0
      have d1' := cellsAt P1 1
      have d2' := cellsAt P1 2
      have d3' := cellsAt P1 3
      have sf' := frozAt P0
      have df' := frozAt P1
      simp at s0' s1' s2' s3' d0' d1' d2' d3'
      go_wp2_with fail
      have P2 := (Below.heap_setCell W6 ⟨w.heap.size, 0, none⟩ (.slice none 0 0) (w.heap.size + 1) (by simp)).trans P1
      have B2 := BS.out.setCell (p := ⟨w.heap.size, 0, none⟩) (Nat.le_refl _) (.slice none 0 0)
      have HO5' := own_set HO5.out (p := ⟨w.heap.size, 0, none⟩) (by show w.heap.size < _; omega) (.slice none 0 0)
      clear s0' s1' s2' s3' d0' d1' d2' d3' sf' df' P0 P1 BS HO5
      generalize W6.setCell ⟨w.heap.size, 0, none⟩ (.slice none 0 0) = W8 at *
      have E := set4 P2 (.slice none 0 0) (.slice A5 (st.length + 1) c5) (.int .i64 last) (.slice A3 out.length c3)
      have BE := Lib.hid (bel4 B2 (g := w.heap.size + 1) (by omega) (.slice none 0 0) (.slice A5 (st.length + 1) c5) (.int .i64 last) (.slice A3 out.length c3))
      have HO6 := Lib.hid (own_set (own_set (own_set (own_set HO5' (p := ⟨w.heap.size + 1, 0, none⟩) (by show w.heap.size + 1 < _; omega) (.slice none 0 0)) (p := ⟨w.heap.size + 1, 1, none⟩) (by show w.heap.size + 1 < _; omega) (.slice A5 (st.length + 1) c5)) (p := ⟨w.heap.size + 1, 2, none⟩) (by show w.heap.size + 1 < _; omega) (.int .i64 last)) (p := ⟨w.heap.size + 1, 3, none⟩) (by show w.heap.size + 1 < _; omega) (.slice A3 out.length c3))
      clear P2 B2 HO5'
      generalize ((((W8.setCell ⟨w.heap.size + 1, 0, none⟩ (.slice none 0 0)).setCell ⟨w.heap.size + 1, 1, none⟩ (.slice A5 (st.length + 1) c5)).setCell ⟨w.heap.size + 1, 2, none⟩ (.int .i64 last)).setCell ⟨w.heap.size + 1, 3, none⟩ (.slice A3 out.length c3)) = W7 at *
      have e0 := cellsAt E 0
      have e1 := cellsAt E 1
      have e2 := cellsAt E 2
      have e3 := cellsAt E 3
      simp at e0 e1 e2 e3
      refine bodyPost_ret (v := .tuple #[.agg #[.slice none 0 0, .slice A5 (st.length + 1) c5, .int .i64 last, .slice A3 out.length c3], .int .i64 0]) (by simp [results, Try.results32, go_sem, e0, e1, e2, e3]) rfl ⟨⟨_, .slice A1 op.length c1, rfl, ⟨_, _, _, rfl, ⟨Row.none_, by simp, by simp⟩, ⟨Row.of_own Stg.cs_len (n := st.length + 1) (by rw [List.flatMap_append]; exact HO6.out) (by simp), ?_, ?_⟩, H4.out, R3.out.below BE.out⟩, ⟨_, _, _, _, _, _, _, _, rfl, rfl, .inr (.inl rfl), src_own HO6.out (by omega), .inl rfl⟩, _, _, _, rfl⟩, BE.out⟩
      · intro x hx
        rcases List.mem_append.1 hx with h | h
        · exact (R2.out.2.1 x h).below BE.out
        · simp at h; subst h; exact ⟨HN.out, R1.out.below BE.out⟩
      · have := HLS.out; simp; unfold maxLen; omega
  · obtain ⟨m, rfl⟩ : ∃ m, ls = m + 1 := ⟨ls - 1, by omega⟩
    obtain ⟨x, hi⟩ : ∃ x, st[m]? = some x := ⟨_, List.getElem?_eq_getElem (by rw [HLS.out]; omega)⟩
    obtain ⟨b', o, c', e', hc', hb, hX⟩ := R2.out.1.at_ hi
    rw [HLS.out] at e'
    injection e' with e1 _ e3
    subst e1
    clear e3 hc'
    have hx := hX 0 _ rfl
    obtain rfl : x.n = pl := by
      rw [← hp]
      unfold prevS
      rw [if_neg (by omega), Nat.add_sub_cancel, List.getElem!_eq_getElem?_getD, hi]
      rfl
    have HX := Lib.hid hX
    have HIx := Lib.hid hi
    clear hX hi hp
    obtain ⟨pl, px, py⟩ := x
    simp only [Nat.add_zero] at hx
    simp only at h3
    go_enter Try.func32, Try.ntmps32
    go_wp2_with fail
    obtain ⟨W1, hW1⟩ : ∃ W1, W1 = (w.alloc (.cells #[.slice A1 op.length c1, .slice (some ⟨b', o, none⟩) (m + 1) c2, .int .i64 last, .slice A3 out.length c3] 66)).alloc (.cells #[.slice none 0 0, .slice none 0 0, .int .i64 0, .slice none 0 0] 66) := ⟨_, rfl⟩
    rw [← hW1]
    have BW := Lib.hid (show Below w.heap.size w W1 by rw [hW1]; exact bel_alloc (bel_alloc (Below.refl _ _) _) _)
    have K1 := Lib.hid (show W1.heap[w.heap.size + 1]? = some (.cells #[.slice none 0 0, .slice none 0 0, .int .i64 0, .slice none 0 0] 66 (0, 0)) by rw [hW1]; exact heap_at _ _ _ (by simp))
    have K0 := Lib.hid (show W1.heap[w.heap.size]? = some (.cells #[.slice A1 op.length c1, .slice (some ⟨b', o, none⟩) (m + 1) c2, .int .i64 last, .slice A3 out.length c3] 66 (0, 0)) by rw [hW1]; exact newA (bel_alloc (Below.refl _ _) _))
    clear hW1
    refine (HR.out _ _ (HV.out.below BW.out)).mono ?_
    rintro e w1 ⟨rfl, hb1⟩
    have B1 := Lib.hid (bThen BW.out hb1)
    have L0 := Lib.hid (heap_below K0.out hb1)
    have L1 := Lib.hid (heap_below K1.out hb1)
    clear hb1 K0 K1 HV
    have hz1 := blk_lt L1.out
    have hz0 := blk_lt L0.out
    have d0 := cellsAt L1.out 0
    have d1 := cellsAt L1.out 1
    have d2 := cellsAt L1.out 2
    have d3 := cellsAt L1.out 3
    have dz := frozAt L1.out
    simp at d0 d1 d2 d3
    have s0 := cellsAt L0.out 0
    have s1 := cellsAt L0.out 1
    have s2 := cellsAt L0.out 2
    have s3 := cellsAt L0.out 3
    have sz := frozAt L0.out
    simp at s0 s1 s2 s3
    go_wp2_with fail
    have R2' : Row Stg.cs 2 w1 (.slice (some ⟨b', o, none⟩) (m + 1) c2) st := by have := R2.out.1.below B1.out; rw [HLS.out] at this; exact this
    go_region_law (first | (go_simp; go_at_call 59; refine (HK.out _ _ (by first | assumption | exact Row.alloc (by assumption) _)).mono ?_; rintro e w4 ⟨v4, rfl, hown, hb4⟩; obtain ⟨A4, c4, rfl⟩ := own_slice hown; (try have q6 := (hb4.cell (p := ⟨w.heap.size, 0, none⟩) (by assumption)).trans (by assumption : _ = some (Value.slice A1 op.length c1))); have q7 := hb4.size) | (refine step_own rfl _ _ 64 rfl _ 85 i0 (.agg #[.int .i64 0, .slice none 0 0]) 2 32 Try.underlying64 HI.out HZ0.out HZ1.out HZ2.out rfl (by decide) _ _ _ rfl (by first | exact hown | exact hown.alloc _) _ 1 1 [.int .i64 n, .slice A1 op.length c1] rfl rfl (by intro j u hj; match j, hj with | 0, hj | 1, hj => (simp at hj; subst hj; first | (simp [Addr.add]; done) | (refine (hb4.cell (by simp [Addr.add])).trans ?_; simp [Addr.add]))) (by intro u hu; simp at hu; rcases hu with rfl | rfl <;> rfl) (by unfold maxLen; have := HLS.out; omega) (by have := HLS.out; omega) (by have q7 := hb4.size; simp at q7 ⊢; omega) ?_; intro v5 W5 hown5 hgrow5 _; obtain ⟨A5, c5, rfl⟩ := own_slice hown5; have BG : Below w1.heap.size w1 W5 := (by first | exact bUndrew ((bel_alloc hb4 _).grown hgrow5 (by have q7 := hb4.size; simp at q7 ⊢; try omega) (fun q hq => by have := (hown.lt _ hq).1; simp at this ⊢; omega)) | exact ((belA (Below.refl _ _) (bUndrew hb4)).grown hgrow5 (by have q7 := hb4.size; simp at q7 ⊢; try omega) (fun q hq => by have := (hown.lt _ hq).1; simp at this ⊢; omega))); have q8 := (BG.cell (p := ⟨w.heap.size, 1, none⟩) hz0).trans s1; have q9 := (BG.frozen (p := ⟨w.heap.size, 1, none⟩) hz0).trans (sz 1)))
    all_goals
      have P1 := (Below.heap_setCell W5 ⟨w.heap.size, 1, none⟩ (.slice A5 (st.length + 1) c5) (w.heap.size + 1) (by simp)).trans (heap_below L1.out BG)
      have P0 := blk_set (heap_below L0.out BG) 1 (.slice A5 (st.length + 1) c5)
      have BS := Lib.hid ((bThen B1.out BG).setCell (p := ⟨w.heap.size, 1, none⟩) (Nat.le_refl _) (.slice A5 (st.length + 1) c5))
      have hsz4 := hb4.size
      have HO5 := Lib.hid (own_base (own_set hown5 (p := ⟨w.heap.size, 1, none⟩) (by show w.heap.size < _; simp; try omega) (.slice A5 (st.length + 1) c5)) (by show w.heap.size + 1 + 1 ≤ _; simp; try omega))
      clear BG q8 q9 hown5 hgrow5 hb4 hown hsz4
      simp at P0
      generalize W5.setCell ⟨w.heap.size, 1, none⟩ (.slice A5 (st.length + 1) c5) = W6 at *
      have s0' := cellsAt P0 0
      have s1' := cellsAt P0 1
      have s2' := cellsAt P0 2
      have s3' := cellsAt P0 3
      have d0' := cellsAt P1 0
      have d1' := cellsAt P1 1
      have d2' := cellsAt P1 2
      have d3' := cellsAt P1 3
      have sf' := frozAt P0
      have df' := frozAt P1
      simp at s0' s1' s2' s3' d0' d1' d2' d3'
      go_wp2_with fail
      have P2 := (Below.heap_setCell W6 ⟨w.heap.size, 0, none⟩ (.slice none 0 0) (w.heap.size + 1) (by simp)).trans P1
      have B2 := BS.out.setCell (p := ⟨w.heap.size, 0, none⟩) (Nat.le_refl _) (.slice none 0 0)
      have HO5' := own_set HO5.out (p := ⟨w.heap.size, 0, none⟩) (by show w.heap.size < _; omega) (.slice none 0 0)
      clear s0' s1' s2' s3' d0' d1' d2' d3' sf' df' P0 P1 BS HO5
      generalize W6.setCell ⟨w.heap.size, 0, none⟩ (.slice none 0 0) = W8 at *
      have E := set4 P2 (.slice none 0 0) (.slice A5 (st.length + 1) c5) (.int .i64 last) (.slice A3 out.length c3)
      have BE := Lib.hid (bel4 B2 (g := w.heap.size + 1) (by omega) (.slice none 0 0) (.slice A5 (st.length + 1) c5) (.int .i64 last) (.slice A3 out.length c3))
      have HO6 := Lib.hid (own_set (own_set (own_set (own_set HO5' (p := ⟨w.heap.size + 1, 0, none⟩) (by show w.heap.size + 1 < _; omega) (.slice none 0 0)) (p := ⟨w.heap.size + 1, 1, none⟩) (by show w.heap.size + 1 < _; omega) (.slice A5 (st.length + 1) c5)) (p := ⟨w.heap.size + 1, 2, none⟩) (by show w.heap.size + 1 < _; omega) (.int .i64 last)) (p := ⟨w.heap.size + 1, 3, none⟩) (by show w.heap.size + 1 < _; omega) (.slice A3 out.length c3))
      clear P2 B2 HO5'
      generalize ((((W8.setCell ⟨w.heap.size + 1, 0, none⟩ (.slice none 0 0)).setCell ⟨w.heap.size + 1, 1, none⟩ (.slice A5 (st.length + 1) c5)).setCell ⟨w.heap.size + 1, 2, none⟩ (.int .i64 last)).setCell ⟨w.heap.size + 1, 3, none⟩ (.slice A3 out.length c3)) = W7 at *
      have e0 := cellsAt E 0
      have e1 := cellsAt E 1
      have e2 := cellsAt E 2
      have e3 := cellsAt E 3
      simp at e0 e1 e2 e3
      refine bodyPost_ret (v := .tuple #[.agg #[.slice none 0 0, .slice A5 (st.length + 1) c5, .int .i64 last, .slice A3 out.length c3], .int .i64 0]) (by simp [results, Try.results32, go_sem, e0, e1, e2, e3]) rfl ⟨⟨_, .slice A1 op.length c1, rfl, ⟨_, _, _, rfl, ⟨Row.none_, by simp, by simp⟩, ⟨Row.of_own Stg.cs_len (n := st.length + 1) (by rw [List.flatMap_append]; exact HO6.out) (by simp), ?_, ?_⟩, H4.out, R3.out.below BE.out⟩, ⟨_, _, _, _, _, _, _, _, rfl, rfl, .inr (.inl rfl), src_own HO6.out (by omega), .inl rfl⟩, _, _, _, rfl⟩, BE.out⟩
      · intro x hx
        rcases List.mem_append.1 hx with h | h
        · exact (R2.out.2.1 x h).below BE.out
        · simp at h; subst h; exact ⟨HN.out, R1.out.below BE.out⟩
      · have := HLS.out; simp; unfold maxLen; omega
end Go.Proofs.Ytenpgkkefielfaa
