/-
  WALKS of layer 19: the reference's Stage.
-/
import Derived.Test.YtenpgkkefielfaaSinkW15
import Derived.Deep.DeepCutAuto
set_option linter.unusedVariables false
set_option linter.unusedSimpArgs false
namespace Go.Proofs.Ytenpgkkefielfaa
open Go.RowKit

def RsRel (st : List Stg) (last : Int) (T : TypeId) (x0 x2 x3 : Value) (w0 : World) (l i : Value) (wr : World) : Prop :=
  ∃ (k : Nat) (u : Value), k ≤ st.length ∧ i = .int .i64 k ∧ l = .int .i64 (prevS last st k) ∧ wr.heap[w0.heap.size]? = some (.cells #[x0, u, x2, x3] T (0, 0)) ∧ wr.ownsRow (w0.heap.size + 1) 85 2 u k ((st.take k).flatMap Stg.cs) ∧ Below w0.heap.size w0 wr
theorem right_lens {op : List Res} {st : List Stg} {last : Int} {out : List Res} (h : rightS op st last out = true) : op.length ≤ 20000 ∧ out.length ≤ 20000 ∧ st.length ≤ 8 ∧ wfL last := by
  unfold rightS headS at h
  simp only [Bool.and_eq_true, decide_eq_true_eq] at h
  exact ⟨(cnt_lens h.1.2.2.2.1).1, (cnt_lens h.1.2.2.2.1).2.1, h.1.2.2.1, by unfold wfL; have := h.1.1; have := h.1.2.1; omega⟩
theorem prevS_succ {last : Int} {st : List Stg} {k : Nat} {x : Stg} (h : st[k]? = some x) : prevS last st (k + 1) = x.n := by
  unfold prevS
  rw [if_neg (by omega), Nat.add_sub_cancel, List.getElem!_eq_getElem?_getD, h]
  rfl
set_option maxRecDepth 100000 in
set_option maxHeartbeats 4000000 in
theorem rstage_no1 (op : List Res) (st : List Stg) (last : Int) (out : List Res) (n : Int) (hn : wfL n) (v : Value) (w : World) (hv : SinkAt w v op st last out) (pl : Int) (hp : prevS last st st.length = pl) (h : rightS op st last out = false) :
    Calls Try.prog 33 #[v, .int .i64 n] w fun e w' => e = .returned (.tuple #[zS, .int .i64 1]) ∧ Below w.heap.size w w' := by
  have HR := Lib.hid (fun v W hW => rsright_any op st last out v W hW false h)
  obtain ⟨vo, vs, vu, ev, hR1, hR2, hR4, hR3⟩ := hv
  have R1 := Lib.hid hR1
  have R2 := Lib.hid hR2
  have R3 := Lib.hid hR3
  have H4 := Lib.hid hR4
  have hv : SinkAt w v op st last out := ⟨vo, vs, vu, ev, hR1, hR2, hR4, hR3⟩
  clear hR1 hR2 hR3 hR4
  have HV := Lib.hid hv
  obtain ⟨A1, c1, A2, c2, A3, c3, ev2⟩ := sink_form hv
  subst ev2
  injection ev with ev
  injection ev with ev
  simp at ev
  obtain ⟨rfl, rfl, rfl⟩ := ev
  have hl4 := hn
  unfold wfL at hl4
  have HN := Lib.hid hn
  have HP := Lib.hid hp
  clear hv h hn hp
  unfold zS
  go_enter Try.func33, Try.ntmps33
  go_wp2_with fail
  obtain ⟨W1, hW1⟩ : ∃ W1, W1 = (w.alloc (.cells #[.slice A1 op.length c1, .slice A2 st.length c2, .int .i64 last, .slice A3 out.length c3] 66)).alloc (.cells #[.slice none 0 0, .slice none 0 0, .int .i64 0, .slice none 0 0] 66) := ⟨_, rfl⟩
  rw [← hW1]
  have BW := Lib.hid (show Below w.heap.size w W1 by rw [hW1]; exact bel_alloc (bel_alloc (Below.refl _ _) _) _)
  have K1 := Lib.hid (show W1.heap[w.heap.size + 1]? = some (.cells #[.slice none 0 0, .slice none 0 0, .int .i64 0, .slice none 0 0] 66 (0, 0)) by rw [hW1]; exact heap_at _ _ _ (by simp))
  have K0 := Lib.hid (show W1.heap[w.heap.size]? = some (.cells #[.slice A1 op.length c1, .slice A2 st.length c2, .int .i64 last, .slice A3 out.length c3] 66 (0, 0)) by rw [hW1]; exact newA (bel_alloc (Below.refl _ _) _))
  clear hW1
  refine (HR.out _ _ (HV.out.below BW.out)).mono ?_
  rintro e w2 ⟨rfl, hb1⟩
  have B2 := Lib.hid (bThen BW.out hb1)
  have M0 := Lib.hid (heap_below K0.out hb1)
  have M1 := Lib.hid (heap_below K1.out hb1)
  clear hb1 K0 K1 HV
  have hz1 := blk_lt M1.out
  have hz0 := blk_lt M0.out
  have d0 := cellsAt M1.out 0
  have d1 := cellsAt M1.out 1
  have d2 := cellsAt M1.out 2
  have d3 := cellsAt M1.out 3
  have dz := frozAt M1.out
  simp at d0 d1 d2 d3
  have s0 := cellsAt M0.out 0
  have s1 := cellsAt M0.out 1
  have s2 := cellsAt M0.out 2
  have s3 := cellsAt M0.out 3
  have sz := frozAt M0.out
  simp at s0 s1 s2 s3
  go_wp2_with fail
  have E := set4 M1.out (.slice none 0 0) (.slice none 0 0) (.int .i64 0) (.slice none 0 0)
  have BE := Lib.hid (bel4 B2.out (g := w.heap.size + 1) (by omega) (.slice none 0 0) (.slice none 0 0) (.int .i64 0) (.slice none 0 0))
  clear d0 d1 d2 d3 dz
  generalize ((((w2.setCell ⟨w.heap.size + 1, 0, none⟩ (.slice none 0 0)).setCell ⟨w.heap.size + 1, 1, none⟩ (.slice none 0 0)).setCell ⟨w.heap.size + 1, 2, none⟩ (.int .i64 0)).setCell ⟨w.heap.size + 1, 3, none⟩ (.slice none 0 0)) = W6 at *
  have e0 := cellsAt E 0
  have e1 := cellsAt E 1
  have e2 := cellsAt E 2
  have e3 := cellsAt E 3
  simp at e0 e1 e2 e3
  exact bodyPost_ret (v := .tuple #[.agg #[.slice none 0 0, .slice none 0 0, .int .i64 0, .slice none 0 0], .int .i64 1]) (by simp [results, Try.results33, go_sem, e0, e1, e2, e3]) rfl ⟨rfl, BE.out⟩
set_option maxRecDepth 100000 in
set_option maxHeartbeats 4000000 in
theorem rstage_no2 (op : List Res) (st : List Stg) (last : Int) (out : List Res) (n : Int) (hn : wfL n) (v : Value) (w : World) (hv : SinkAt w v op st last out) (pl : Int) (hp : prevS last st st.length = pl) (h : rightS op st last out = true) (h2 : 1073741824 < n) :
    Calls Try.prog 33 #[v, .int .i64 n] w fun e w' => e = .returned (.tuple #[zS, .int .i64 1]) ∧ Below w.heap.size w w' := by
  have hls8 := (right_lens h).2.2.1
  have HR := Lib.hid (fun v W hW => rsright_any op st last out v W hW true h)
  obtain ⟨vo, vs, vu, ev, hR1, hR2, hR4, hR3⟩ := hv
  have R1 := Lib.hid hR1
  have R2 := Lib.hid hR2
  have R3 := Lib.hid hR3
  have H4 := Lib.hid hR4
  have hv : SinkAt w v op st last out := ⟨vo, vs, vu, ev, hR1, hR2, hR4, hR3⟩
  clear hR1 hR2 hR3 hR4
  have HV := Lib.hid hv
  obtain ⟨A1, c1, A2, c2, A3, c3, ev2⟩ := sink_form hv
  subst ev2
  injection ev with ev
  injection ev with ev
  simp at ev
  obtain ⟨rfl, rfl, rfl⟩ := ev
  have hl4 := hn
  unfold wfL at hl4
  have HN := Lib.hid hn
  have HP := Lib.hid hp
  clear hv h hn hp
  unfold zS
  go_enter Try.func33, Try.ntmps33
  go_wp2_with fail
  obtain ⟨W1, hW1⟩ : ∃ W1, W1 = (w.alloc (.cells #[.slice A1 op.length c1, .slice A2 st.length c2, .int .i64 last, .slice A3 out.length c3] 66)).alloc (.cells #[.slice none 0 0, .slice none 0 0, .int .i64 0, .slice none 0 0] 66) := ⟨_, rfl⟩
  rw [← hW1]
  have BW := Lib.hid (show Below w.heap.size w W1 by rw [hW1]; exact bel_alloc (bel_alloc (Below.refl _ _) _) _)
  have K1 := Lib.hid (show W1.heap[w.heap.size + 1]? = some (.cells #[.slice none 0 0, .slice none 0 0, .int .i64 0, .slice none 0 0] 66 (0, 0)) by rw [hW1]; exact heap_at _ _ _ (by simp))
  have K0 := Lib.hid (show W1.heap[w.heap.size]? = some (.cells #[.slice A1 op.length c1, .slice A2 st.length c2, .int .i64 last, .slice A3 out.length c3] 66 (0, 0)) by rw [hW1]; exact newA (bel_alloc (Below.refl _ _) _))
  clear hW1
  refine (HR.out _ _ (HV.out.below BW.out)).mono ?_
  rintro e w2 ⟨rfl, hb1⟩
  have B2 := Lib.hid (bThen BW.out hb1)
  have M0 := Lib.hid (heap_below K0.out hb1)
  have M1 := Lib.hid (heap_below K1.out hb1)
  clear hb1 K0 K1 HV
  have hz1 := blk_lt M1.out
  have hz0 := blk_lt M0.out
  have d0 := cellsAt M1.out 0
  have d1 := cellsAt M1.out 1
  have d2 := cellsAt M1.out 2
  have d3 := cellsAt M1.out 3
  have dz := frozAt M1.out
  simp at d0 d1 d2 d3
  have s0 := cellsAt M0.out 0
  have s1 := cellsAt M0.out 1
  have s2 := cellsAt M0.out 2
  have s3 := cellsAt M0.out 3
  have sz := frozAt M0.out
  simp at s0 s1 s2 s3
  go_wp2_with fail
  have E := set4 M1.out (.slice none 0 0) (.slice none 0 0) (.int .i64 0) (.slice none 0 0)
  have BE := Lib.hid (bel4 B2.out (g := w.heap.size + 1) (by omega) (.slice none 0 0) (.slice none 0 0) (.int .i64 0) (.slice none 0 0))
  clear d0 d1 d2 d3 dz
  generalize ((((w2.setCell ⟨w.heap.size + 1, 0, none⟩ (.slice none 0 0)).setCell ⟨w.heap.size + 1, 1, none⟩ (.slice none 0 0)).setCell ⟨w.heap.size + 1, 2, none⟩ (.int .i64 0)).setCell ⟨w.heap.size + 1, 3, none⟩ (.slice none 0 0)) = W6 at *
  have e0 := cellsAt E 0
  have e1 := cellsAt E 1
  have e2 := cellsAt E 2
  have e3 := cellsAt E 3
  simp at e0 e1 e2 e3
  exact bodyPost_ret (v := .tuple #[.agg #[.slice none 0 0, .slice none 0 0, .int .i64 0, .slice none 0 0], .int .i64 1]) (by simp [results, Try.results33, go_sem, e0, e1, e2, e3]) rfl ⟨rfl, BE.out⟩
set_option maxRecDepth 100000 in
set_option maxHeartbeats 4000000 in
theorem rstage_no3 (op : List Res) (st : List Stg) (last : Int) (out : List Res) (n : Int) (hn : wfL n) (v : Value) (w : World) (hv : SinkAt w v op st last out) (pl : Int) (hp : prevS last st st.length = pl) (h : rightS op st last out = true) (h2 : n ≤ 1073741824) (h3 : n ≤ pl) :
    Calls Try.prog 33 #[v, .int .i64 n] w fun e w' => e = .returned (.tuple #[zS, .int .i64 190]) ∧ Below w.heap.size w w' := by
  have hls8 := (right_lens h).2.2.1
  have HR := Lib.hid (fun v W hW => rsright_any op st last out v W hW true h)
  obtain ⟨vo, vs, vu, ev, hR1, hR2, hR4, hR3⟩ := hv
  have R1 := Lib.hid hR1
  have R2 := Lib.hid hR2
  have R3 := Lib.hid hR3
  have H4 := Lib.hid hR4
  have hv : SinkAt w v op st last out := ⟨vo, vs, vu, ev, hR1, hR2, hR4, hR3⟩
  clear hR1 hR2 hR3 hR4
  have HV := Lib.hid hv
  obtain ⟨A1, c1, A2, c2, A3, c3, ev2⟩ := sink_form hv
  subst ev2
  injection ev with ev
  injection ev with ev
  simp at ev
  obtain ⟨rfl, rfl, rfl⟩ := ev
  have hl4 := hn
  unfold wfL at hl4
  have HN := Lib.hid hn
  have HP := Lib.hid hp
  clear hv h hn hp
  obtain ⟨i0, hi, hi0, hi1, hi2⟩ := info_parts info_sg
  have HI := Lib.hid hi
  have HZ0 := Lib.hid hi0
  have HZ1 := Lib.hid hi1
  have HZ2 := Lib.hid hi2
  clear hi hi0 hi1 hi2
  unfold zS
  go_enter Try.func33, Try.ntmps33
  go_wp2_with fail
  obtain ⟨W1, hW1⟩ : ∃ W1, W1 = (w.alloc (.cells #[.slice A1 op.length c1, .slice A2 st.length c2, .int .i64 last, .slice A3 out.length c3] 66)).alloc (.cells #[.slice none 0 0, .slice none 0 0, .int .i64 0, .slice none 0 0] 66) := ⟨_, rfl⟩
  rw [← hW1]
  have BW := Lib.hid (show Below w.heap.size w W1 by rw [hW1]; exact bel_alloc (bel_alloc (Below.refl _ _) _) _)
  have K1 := Lib.hid (show W1.heap[w.heap.size + 1]? = some (.cells #[.slice none 0 0, .slice none 0 0, .int .i64 0, .slice none 0 0] 66 (0, 0)) by rw [hW1]; exact heap_at _ _ _ (by simp))
  have K0 := Lib.hid (show W1.heap[w.heap.size]? = some (.cells #[.slice A1 op.length c1, .slice A2 st.length c2, .int .i64 last, .slice A3 out.length c3] 66 (0, 0)) by rw [hW1]; exact newA (bel_alloc (Below.refl _ _) _))
  clear hW1
  refine (HR.out _ _ (HV.out.below BW.out)).mono ?_
  rintro e w2 ⟨rfl, hb1⟩
  have B2 := Lib.hid (bThen BW.out hb1)
  have M0 := Lib.hid (heap_below K0.out hb1)
  have M1 := Lib.hid (heap_below K1.out hb1)
  clear hb1 K0 K1 HV
  have hz1 := blk_lt M1.out
  have hz0 := blk_lt M0.out
  have d0 := cellsAt M1.out 0
  have d1 := cellsAt M1.out 1
  have d2 := cellsAt M1.out 2
  have d3 := cellsAt M1.out 3
  have dz := frozAt M1.out
  simp at d0 d1 d2 d3
  have s0 := cellsAt M0.out 0
  have s1 := cellsAt M0.out 1
  have s2 := cellsAt M0.out 2
  have s3 := cellsAt M0.out 3
  have sz := frozAt M0.out
  simp at s0 s1 s2 s3
  go_wp2_with fail
  obtain ⟨W3, hW3⟩ : ∃ W3, W3 = w2.alloc (.cells #[.slice none 0 0, .slice none 0 0, .int .i64 last, .slice A3 out.length c3] 66) := ⟨_, rfl⟩
  rw [← hW3]
  have G3 := Lib.hid (show W3.heap[w2.heap.size]? = some (.cells #[.slice none 0 0, .slice none 0 0, .int .i64 last, .slice A3 out.length c3] 66 (0, 0)) by rw [hW3]; exact heap_at _ _ _ rfl)
  have B3 := Lib.hid (show Below w2.heap.size w2 W3 by rw [hW3]; exact bel_alloc (Below.refl _ _) _)
  have hz3 : w2.heap.size + 1 ≤ W3.heap.size := by rw [hW3]; simp
  clear hW3 d0 d1 d2 d3 s0 s1 s2 s3 dz sz
  have h2d : decide (1073741824 < n) = false := by simp; omega
  try simp only [h2d]
  go_loopw [7, 28] (fun l i wr => RsRel st last 66 (.slice none 0 0) (.int .i64 last) (.slice A3 out.length c3) w2 l i wr) (fun _ i _ => st.length - (intOf i).toNat)
  case atStart => exact ⟨0, _, Nat.zero_le _, rfl, rfl, G3.out, own_base (World.ownsRow_nil _ _ _ _) hz3, B3.out⟩
  case round =>
    obtain ⟨k, u, hk, rfl, rfl, hg, hown, hbel⟩ := hrel
    have HB := Lib.hid hbel
    have HG := Lib.hid hg
    have HO := Lib.hid hown
    clear hbel hg hown
    by_cases hlt : k < st.length
    · obtain ⟨x, hi⟩ : ∃ x, st[k]? = some x := ⟨_, List.getElem?_eq_getElem hlt⟩
      obtain ⟨b', o, c', e', hc', hb, hX⟩ := (R2.out.1.below B2.out).at_ hi
      injection e' with e1 _ e3
      subst e1
      clear e3 hc'
      have q0 := (HB.out.cell (p := ⟨b', o + k * 2 + 0, none⟩) hb).trans (hX 0 _ rfl)
      have q1 := (HB.out.cell (p := ⟨b', o + k * 2 + 1, none⟩) hb).trans (hX 1 _ rfl)
      have HPS := Lib.hid (prevS_succ (last := last) hi)
      have HIx := Lib.hid hi
      obtain ⟨-, ⟨Ax, cx, hxe, -, -⟩, -⟩ := R2.out.2.1 x (List.mem_of_getElem? hi)
      clear hX hi
      obtain ⟨xn, xr, xl⟩ := x
      simp only [Nat.add_zero] at q0 q1 HPS hxe
      subst hxe
      generalize prevS last st k = pv at *
      have hzb := Nat.lt_of_lt_of_le hb HB.out.size
      go_upto_region 9 with fail
      obtain ⟨W4, hW4⟩ : ∃ W4, W4 = wr.alloc (.cells #[.int .i64 xn, .slice Ax xl.length cx] 85) := ⟨_, rfl⟩
      rw [← hW4]
      have X4 := Lib.hid (show W4.heap[wr.heap.size]? = some (.cells #[.int .i64 xn, .slice Ax xl.length cx] 85 (0, 0)) by rw [hW4]; exact heap_at _ _ _ rfl)
      have G4 := Lib.hid (show W4.heap[w2.heap.size]? = some (.cells #[.slice none 0 0, u, .int .i64 last, .slice A3 out.length c3] 66 (0, 0)) by rw [hW4]; exact heap_below HG.out (bel_alloc (Below.refl _ _) _))
      have O4 := Lib.hid (show W4.ownsRow (w2.heap.size + 1) 85 2 u k ((st.take k).flatMap Stg.cs) by rw [hW4]; exact HO.out.alloc _)
      have B4 := Lib.hid (show Below w2.heap.size w2 W4 by rw [hW4]; exact bel_alloc HB.out _)
      clear hW4 q0 q1
      clear HB HG HO
      obtain ⟨Au, cu, rfl⟩ := own_slice O4.out
      have xz := blk_lt X4.out
      have gz := blk_lt G4.out
      have q0 := cellsAt X4.out 0
      have q1 := cellsAt X4.out 1
      have g1 := cellsAt G4.out 1
      have gf := frozAt G4.out
      simp at q0 q1 g1
      go_wp2_with (at_builtin; refine wpList_append_own _ rfl _ _ 64 rfl (w2.heap.size + 1) 85 i0 (.agg #[.int .i64 0, .slice none 0 0]) 2 32 Try.underlying64 HI.out HZ0.out HZ1.out HZ2.out rfl (by decide) _ _ _ rfl (O4.out.alloc _) ⟨W4.heap.size, 0, none⟩ 1 1 [.int .i64 xn, .slice Ax xl.length cx] rfl rfl ?c1 ?c2 ?c3 ?c4 ?c5 ?_)
      case c2 => exact ⟨rfl, rfl⟩
      case c3 => unfold maxLen; omega
      case c4 => omega
      case c5 => omega
      intro v5 W5 hown5 hgrow5 _
      obtain ⟨A5, c5, rfl⟩ := own_slice hown5
      have BG := Lib.hid (((Below.refl (w2.heap.size + 1) W4).alloc (by omega) _).grown hgrow5 (by simp; omega) (fun q hq => (O4.out.lt q hq).1))
      have G5 := Lib.hid ((BG.out.block w2.heap.size (by omega)).trans G4.out)
      have B5 := Lib.hid (B4.out.trans (BG.out.mono (by omega)))
      have O5 := Lib.hid hown5
      clear hown5 hgrow5 q0 q1 g1 gf gz
      have g1 := cellsAt G5.out 1
      have gf := frozAt G5.out
      have gz := blk_lt G5.out
      simp at g1
      go_wp2_with fail
      go_roundw
      case rel =>
        refine ⟨k + 1, _, by omega, by go_num, by rw [HPS.out], by simpa using blk_set G5.out 1 _, ?_, B5.out.setCell (p := ⟨w2.heap.size, 1, none⟩) (Nat.le_refl _) _⟩
        rw [List.take_add_one, HIx.out, List.flatMap_append]
        exact own_set O5.out (p := ⟨w2.heap.size, 1, none⟩) (Nat.lt_succ_self _) _
      case measure => simp [intOf]; omega
    · have hkn : k = st.length := by omega
      subst hkn
      rw [List.take_length] at HO
      have G4 := Lib.hid HG.out
      have O4 := Lib.hid HO.out
      have B4 := Lib.hid HB.out
      have N0 := Lib.hid (heap_below M0.out HB.out)
      have N1 := Lib.hid (heap_below M1.out HB.out)
      rw [HP.out]
      clear HG HO HB
      obtain ⟨Au, cu, rfl⟩ := own_slice O4.out
      have gz := blk_lt G4.out
      have g1 := cellsAt G4.out 1
      have gf := frozAt G4.out
      simp at g1
      have hy1 := blk_lt N1.out
      have hy0 := blk_lt N0.out
      have d0 := cellsAt N1.out 0
      have d1 := cellsAt N1.out 1
      have d2 := cellsAt N1.out 2
      have d3 := cellsAt N1.out 3
      have dz := frozAt N1.out
      simp at d0 d1 d2 d3
      have s0 := cellsAt N0.out 0
      have s1 := cellsAt N0.out 1
      have s2 := cellsAt N0.out 2
      have s3 := cellsAt N0.out 3
      have sz := frozAt N0.out
      simp at s0 s1 s2 s3
      go_wp2_with fail
      have E := set4 N1.out (.slice none 0 0) (.slice none 0 0) (.int .i64 0) (.slice none 0 0)
      have BE := Lib.hid (bel4 (bThen B2.out B4.out) (g := w.heap.size + 1) (by omega) (.slice none 0 0) (.slice none 0 0) (.int .i64 0) (.slice none 0 0))
      clear d0 d1 d2 d3 dz
      generalize ((((wr.setCell ⟨w.heap.size + 1, 0, none⟩ (.slice none 0 0)).setCell ⟨w.heap.size + 1, 1, none⟩ (.slice none 0 0)).setCell ⟨w.heap.size + 1, 2, none⟩ (.int .i64 0)).setCell ⟨w.heap.size + 1, 3, none⟩ (.slice none 0 0)) = W6 at *
      have e0 := cellsAt E 0
      have e1 := cellsAt E 1
      have e2 := cellsAt E 2
      have e3 := cellsAt E 3
      simp at e0 e1 e2 e3
      exact bodyPost_ret (v := .tuple #[.agg #[.slice none 0 0, .slice none 0 0, .int .i64 0, .slice none 0 0], .int .i64 190]) (by simp [results, Try.results33, go_sem, e0, e1, e2, e3]) rfl ⟨rfl, BE.out⟩
set_option maxRecDepth 100000 in
set_option maxHeartbeats 4000000 in
theorem rstage_no4 (op : List Res) (st : List Stg) (last : Int) (out : List Res) (n : Int) (hn : wfL n) (v : Value) (w : World) (hv : SinkAt w v op st last out) (pl : Int) (hp : prevS last st st.length = pl) (h : rightS op st last out = true) (h2 : n ≤ 1073741824) (h3 : pl < n) (h4 : 8 ≤ st.length) :
    Calls Try.prog 33 #[v, .int .i64 n] w fun e w' => e = .returned (.tuple #[zS, .int .i64 3]) ∧ Below w.heap.size w w' := by
  have hls8 := (right_lens h).2.2.1
  have HR := Lib.hid (fun v W hW => rsright_any op st last out v W hW true h)
  obtain ⟨vo, vs, vu, ev, hR1, hR2, hR4, hR3⟩ := hv
  have R1 := Lib.hid hR1
  have R2 := Lib.hid hR2
  have R3 := Lib.hid hR3
  have H4 := Lib.hid hR4
  have hv : SinkAt w v op st last out := ⟨vo, vs, vu, ev, hR1, hR2, hR4, hR3⟩
  clear hR1 hR2 hR3 hR4
  have HV := Lib.hid hv
  obtain ⟨A1, c1, A2, c2, A3, c3, ev2⟩ := sink_form hv
  subst ev2
  injection ev with ev
  injection ev with ev
  simp at ev
  obtain ⟨rfl, rfl, rfl⟩ := ev
  have hl4 := hn
  unfold wfL at hl4
  have HN := Lib.hid hn
  have HP := Lib.hid hp
  clear hv h hn hp
  obtain ⟨i0, hi, hi0, hi1, hi2⟩ := info_parts info_sg
  have HI := Lib.hid hi
  have HZ0 := Lib.hid hi0
  have HZ1 := Lib.hid hi1
  have HZ2 := Lib.hid hi2
  clear hi hi0 hi1 hi2
  unfold zS
  go_enter Try.func33, Try.ntmps33
  go_wp2_with fail
  obtain ⟨W1, hW1⟩ : ∃ W1, W1 = (w.alloc (.cells #[.slice A1 op.length c1, .slice A2 st.length c2, .int .i64 last, .slice A3 out.length c3] 66)).alloc (.cells #[.slice none 0 0, .slice none 0 0, .int .i64 0, .slice none 0 0] 66) := ⟨_, rfl⟩
  rw [← hW1]
  have BW := Lib.hid (show Below w.heap.size w W1 by rw [hW1]; exact bel_alloc (bel_alloc (Below.refl _ _) _) _)
  have K1 := Lib.hid (show W1.heap[w.heap.size + 1]? = some (.cells #[.slice none 0 0, .slice none 0 0, .int .i64 0, .slice none 0 0] 66 (0, 0)) by rw [hW1]; exact heap_at _ _ _ (by simp))
  have K0 := Lib.hid (show W1.heap[w.heap.size]? = some (.cells #[.slice A1 op.length c1, .slice A2 st.length c2, .int .i64 last, .slice A3 out.length c3] 66 (0, 0)) by rw [hW1]; exact newA (bel_alloc (Below.refl _ _) _))
  clear hW1
  refine (HR.out _ _ (HV.out.below BW.out)).mono ?_
  rintro e w2 ⟨rfl, hb1⟩
  have B2 := Lib.hid (bThen BW.out hb1)
  have M0 := Lib.hid (heap_below K0.out hb1)
  have M1 := Lib.hid (heap_below K1.out hb1)
  clear hb1 K0 K1 HV
  have hz1 := blk_lt M1.out
  have hz0 := blk_lt M0.out
  have d0 := cellsAt M1.out 0
  have d1 := cellsAt M1.out 1
  have d2 := cellsAt M1.out 2
  have d3 := cellsAt M1.out 3
  have dz := frozAt M1.out
  simp at d0 d1 d2 d3
  have s0 := cellsAt M0.out 0
  have s1 := cellsAt M0.out 1
  have s2 := cellsAt M0.out 2
  have s3 := cellsAt M0.out 3
  have sz := frozAt M0.out
  simp at s0 s1 s2 s3
  go_wp2_with fail
  obtain ⟨W3, hW3⟩ : ∃ W3, W3 = w2.alloc (.cells #[.slice none 0 0, .slice none 0 0, .int .i64 last, .slice A3 out.length c3] 66) := ⟨_, rfl⟩
  rw [← hW3]
  have G3 := Lib.hid (show W3.heap[w2.heap.size]? = some (.cells #[.slice none 0 0, .slice none 0 0, .int .i64 last, .slice A3 out.length c3] 66 (0, 0)) by rw [hW3]; exact heap_at _ _ _ rfl)
  have B3 := Lib.hid (show Below w2.heap.size w2 W3 by rw [hW3]; exact bel_alloc (Below.refl _ _) _)
  have hz3 : w2.heap.size + 1 ≤ W3.heap.size := by rw [hW3]; simp
  clear hW3 d0 d1 d2 d3 s0 s1 s2 s3 dz sz
  have h2d : decide (1073741824 < n) = false := by simp; omega
  try simp only [h2d]
  go_loopw [7, 28] (fun l i wr => RsRel st last 66 (.slice none 0 0) (.int .i64 last) (.slice A3 out.length c3) w2 l i wr) (fun _ i _ => st.length - (intOf i).toNat)
  case atStart => exact ⟨0, _, Nat.zero_le _, rfl, rfl, G3.out, own_base (World.ownsRow_nil _ _ _ _) hz3, B3.out⟩
  case round =>
    obtain ⟨k, u, hk, rfl, rfl, hg, hown, hbel⟩ := hrel
    have HB := Lib.hid hbel
    have HG := Lib.hid hg
    have HO := Lib.hid hown
    clear hbel hg hown
    by_cases hlt : k < st.length
    · obtain ⟨x, hi⟩ : ∃ x, st[k]? = some x := ⟨_, List.getElem?_eq_getElem hlt⟩
      obtain ⟨b', o, c', e', hc', hb, hX⟩ := (R2.out.1.below B2.out).at_ hi
      injection e' with e1 _ e3
      subst e1
      clear e3 hc'
      have q0 := (HB.out.cell (p := ⟨b', o + k * 2 + 0, none⟩) hb).trans (hX 0 _ rfl)
      have q1 := (HB.out.cell (p := ⟨b', o + k * 2 + 1, none⟩) hb).trans (hX 1 _ rfl)
      have HPS := Lib.hid (prevS_succ (last := last) hi)
      have HIx := Lib.hid hi
      obtain ⟨-, ⟨Ax, cx, hxe, -, -⟩, -⟩ := R2.out.2.1 x (List.mem_of_getElem? hi)
      clear hX hi
      obtain ⟨xn, xr, xl⟩ := x
      simp only [Nat.add_zero] at q0 q1 HPS hxe
      subst hxe
      generalize prevS last st k = pv at *
      have hzb := Nat.lt_of_lt_of_le hb HB.out.size
      go_upto_region 9 with fail
      obtain ⟨W4, hW4⟩ : ∃ W4, W4 = wr.alloc (.cells #[.int .i64 xn, .slice Ax xl.length cx] 85) := ⟨_, rfl⟩
      rw [← hW4]
      have X4 := Lib.hid (show W4.heap[wr.heap.size]? = some (.cells #[.int .i64 xn, .slice Ax xl.length cx] 85 (0, 0)) by rw [hW4]; exact heap_at _ _ _ rfl)
      have G4 := Lib.hid (show W4.heap[w2.heap.size]? = some (.cells #[.slice none 0 0, u, .int .i64 last, .slice A3 out.length c3] 66 (0, 0)) by rw [hW4]; exact heap_below HG.out (bel_alloc (Below.refl _ _) _))
      have O4 := Lib.hid (show W4.ownsRow (w2.heap.size + 1) 85 2 u k ((st.take k).flatMap Stg.cs) by rw [hW4]; exact HO.out.alloc _)
      have B4 := Lib.hid (show Below w2.heap.size w2 W4 by rw [hW4]; exact bel_alloc HB.out _)
      clear hW4 q0 q1
      clear HB HG HO
      obtain ⟨Au, cu, rfl⟩ := own_slice O4.out
      have xz := blk_lt X4.out
      have gz := blk_lt G4.out
      have q0 := cellsAt X4.out 0
      have q1 := cellsAt X4.out 1
      have g1 := cellsAt G4.out 1
      have gf := frozAt G4.out
      simp at q0 q1 g1
      go_wp2_with (at_builtin; refine wpList_append_own _ rfl _ _ 64 rfl (w2.heap.size + 1) 85 i0 (.agg #[.int .i64 0, .slice none 0 0]) 2 32 Try.underlying64 HI.out HZ0.out HZ1.out HZ2.out rfl (by decide) _ _ _ rfl (O4.out.alloc _) ⟨W4.heap.size, 0, none⟩ 1 1 [.int .i64 xn, .slice Ax xl.length cx] rfl rfl ?c1 ?c2 ?c3 ?c4 ?c5 ?_)
      case c2 => exact ⟨rfl, rfl⟩
      case c3 => unfold maxLen; omega
      case c4 => omega
      case c5 => omega
      intro v5 W5 hown5 hgrow5 _
      obtain ⟨A5, c5, rfl⟩ := own_slice hown5
      have BG := Lib.hid (((Below.refl (w2.heap.size + 1) W4).alloc (by omega) _).grown hgrow5 (by simp; omega) (fun q hq => (O4.out.lt q hq).1))
      have G5 := Lib.hid ((BG.out.block w2.heap.size (by omega)).trans G4.out)
      have B5 := Lib.hid (B4.out.trans (BG.out.mono (by omega)))
      have O5 := Lib.hid hown5
      clear hown5 hgrow5 q0 q1 g1 gf gz
      have g1 := cellsAt G5.out 1
      have gf := frozAt G5.out
      have gz := blk_lt G5.out
      simp at g1
      go_wp2_with fail
      go_roundw
      case rel =>
        refine ⟨k + 1, _, by omega, by go_num, by rw [HPS.out], by simpa using blk_set G5.out 1 _, ?_, B5.out.setCell (p := ⟨w2.heap.size, 1, none⟩) (Nat.le_refl _) _⟩
        rw [List.take_add_one, HIx.out, List.flatMap_append]
        exact own_set O5.out (p := ⟨w2.heap.size, 1, none⟩) (Nat.lt_succ_self _) _
      case measure => simp [intOf]; omega
    · have hkn : k = st.length := by omega
      subst hkn
      rw [List.take_length] at HO
      have G4 := Lib.hid HG.out
      have O4 := Lib.hid HO.out
      have B4 := Lib.hid HB.out
      have N0 := Lib.hid (heap_below M0.out HB.out)
      have N1 := Lib.hid (heap_below M1.out HB.out)
      rw [HP.out]
      clear HG HO HB
      obtain ⟨Au, cu, rfl⟩ := own_slice O4.out
      have gz := blk_lt G4.out
      have g1 := cellsAt G4.out 1
      have gf := frozAt G4.out
      simp at g1
      have hy1 := blk_lt N1.out
      have hy0 := blk_lt N0.out
      have d0 := cellsAt N1.out 0
      have d1 := cellsAt N1.out 1
      have d2 := cellsAt N1.out 2
      have d3 := cellsAt N1.out 3
      have dz := frozAt N1.out
      simp at d0 d1 d2 d3
      have s0 := cellsAt N0.out 0
      have s1 := cellsAt N0.out 1
      have s2 := cellsAt N0.out 2
      have s3 := cellsAt N0.out 3
      have sz := frozAt N0.out
      simp at s0 s1 s2 s3
      go_wp2_with fail
      have E := set4 N1.out (.slice none 0 0) (.slice none 0 0) (.int .i64 0) (.slice none 0 0)
      have BE := Lib.hid (bel4 (bThen B2.out B4.out) (g := w.heap.size + 1) (by omega) (.slice none 0 0) (.slice none 0 0) (.int .i64 0) (.slice none 0 0))
      clear d0 d1 d2 d3 dz
      generalize ((((wr.setCell ⟨w.heap.size + 1, 0, none⟩ (.slice none 0 0)).setCell ⟨w.heap.size + 1, 1, none⟩ (.slice none 0 0)).setCell ⟨w.heap.size + 1, 2, none⟩ (.int .i64 0)).setCell ⟨w.heap.size + 1, 3, none⟩ (.slice none 0 0)) = W6 at *
      have e0 := cellsAt E 0
      have e1 := cellsAt E 1
      have e2 := cellsAt E 2
      have e3 := cellsAt E 3
      simp at e0 e1 e2 e3
      exact bodyPost_ret (v := .tuple #[.agg #[.slice none 0 0, .slice none 0 0, .int .i64 0, .slice none 0 0], .int .i64 3]) (by simp [results, Try.results33, go_sem, e0, e1, e2, e3]) rfl ⟨rfl, BE.out⟩
set_option maxRecDepth 100000 in
set_option maxHeartbeats 4000000 in
theorem rstage_yes (op : List Res) (st : List Stg) (last : Int) (out : List Res) (n : Int) (hn : wfL n) (v : Value) (w : World) (hv : SinkAt w v op st last out) (pl : Int) (hp : prevS last st st.length = pl) (h : rightS op st last out = true) (h2 : n ≤ 1073741824) (h3 : pl < n) (h4 : st.length < 8) :
    Calls Try.prog 33 #[v, .int .i64 n] w fun e w' => (∃ v' vo, e = .returned (.tuple #[v', .int .i64 0]) ∧ SinkAt w' v' [] (st ++ [⟨n, vo, op⟩]) last out) ∧ Below w.heap.size w w' := by
  have hls8 := (right_lens h).2.2.1
  have HR := Lib.hid (fun v W hW => rsright_any op st last out v W hW true h)
  obtain ⟨vo, vs, vu, ev, hR1, hR2, hR4, hR3⟩ := hv
  have R1 := Lib.hid hR1
  have R2 := Lib.hid hR2
  have R3 := Lib.hid hR3
  have H4 := Lib.hid hR4
  have hv : SinkAt w v op st last out := ⟨vo, vs, vu, ev, hR1, hR2, hR4, hR3⟩
  clear hR1 hR2 hR3 hR4
  have HV := Lib.hid hv
  obtain ⟨A1, c1, A2, c2, A3, c3, ev2⟩ := sink_form hv
  subst ev2
  injection ev with ev
  injection ev with ev
  simp at ev
  obtain ⟨rfl, rfl, rfl⟩ := ev
  have hl4 := hn
  unfold wfL at hl4
  have HN := Lib.hid hn
  have HP := Lib.hid hp
  clear hv h hn hp
  obtain ⟨i0, hi, hi0, hi1, hi2⟩ := info_parts info_sg
  have HI := Lib.hid hi
  have HZ0 := Lib.hid hi0
  have HZ1 := Lib.hid hi1
  have HZ2 := Lib.hid hi2
  clear hi hi0 hi1 hi2
  go_enter Try.func33, Try.ntmps33
  go_wp2_with fail
  obtain ⟨W1, hW1⟩ : ∃ W1, W1 = (w.alloc (.cells #[.slice A1 op.length c1, .slice A2 st.length c2, .int .i64 last, .slice A3 out.length c3] 66)).alloc (.cells #[.slice none 0 0, .slice none 0 0, .int .i64 0, .slice none 0 0] 66) := ⟨_, rfl⟩
  rw [← hW1]
  have BW := Lib.hid (show Below w.heap.size w W1 by rw [hW1]; exact bel_alloc (bel_alloc (Below.refl _ _) _) _)
  have K1 := Lib.hid (show W1.heap[w.heap.size + 1]? = some (.cells #[.slice none 0 0, .slice none 0 0, .int .i64 0, .slice none 0 0] 66 (0, 0)) by rw [hW1]; exact heap_at _ _ _ (by simp))
  have K0 := Lib.hid (show W1.heap[w.heap.size]? = some (.cells #[.slice A1 op.length c1, .slice A2 st.length c2, .int .i64 last, .slice A3 out.length c3] 66 (0, 0)) by rw [hW1]; exact newA (bel_alloc (Below.refl _ _) _))
  clear hW1
  refine (HR.out _ _ (HV.out.below BW.out)).mono ?_
  rintro e w2 ⟨rfl, hb1⟩
  have B2 := Lib.hid (bThen BW.out hb1)
  have M0 := Lib.hid (heap_below K0.out hb1)
  have M1 := Lib.hid (heap_below K1.out hb1)
  clear hb1 K0 K1 HV
  have hz1 := blk_lt M1.out
  have hz0 := blk_lt M0.out
  have d0 := cellsAt M1.out 0
  have d1 := cellsAt M1.out 1
  have d2 := cellsAt M1.out 2
  have d3 := cellsAt M1.out 3
  have dz := frozAt M1.out
  simp at d0 d1 d2 d3
  have s0 := cellsAt M0.out 0
  have s1 := cellsAt M0.out 1
  have s2 := cellsAt M0.out 2
  have s3 := cellsAt M0.out 3
  have sz := frozAt M0.out
  simp at s0 s1 s2 s3
  go_wp2_with fail
  obtain ⟨W3, hW3⟩ : ∃ W3, W3 = w2.alloc (.cells #[.slice none 0 0, .slice none 0 0, .int .i64 last, .slice A3 out.length c3] 66) := ⟨_, rfl⟩
  rw [← hW3]
  have G3 := Lib.hid (show W3.heap[w2.heap.size]? = some (.cells #[.slice none 0 0, .slice none 0 0, .int .i64 last, .slice A3 out.length c3] 66 (0, 0)) by rw [hW3]; exact heap_at _ _ _ rfl)
  have B3 := Lib.hid (show Below w2.heap.size w2 W3 by rw [hW3]; exact bel_alloc (Below.refl _ _) _)
  have hz3 : w2.heap.size + 1 ≤ W3.heap.size := by rw [hW3]; simp
  clear hW3 d0 d1 d2 d3 s0 s1 s2 s3 dz sz
  have h2d : decide (1073741824 < n) = false := by simp; omega
  try simp only [h2d]
  go_loopw [7, 28] (fun l i wr => RsRel st last 66 (.slice none 0 0) (.int .i64 last) (.slice A3 out.length c3) w2 l i wr) (fun _ i _ => st.length - (intOf i).toNat)
  case atStart => exact ⟨0, _, Nat.zero_le _, rfl, rfl, G3.out, own_base (World.ownsRow_nil _ _ _ _) hz3, B3.out⟩
  case round =>
    obtain ⟨k, u, hk, rfl, rfl, hg, hown, hbel⟩ := hrel
    have HB := Lib.hid hbel
    have HG := Lib.hid hg
    have HO := Lib.hid hown
    clear hbel hg hown
    by_cases hlt : k < st.length
    · obtain ⟨x, hi⟩ : ∃ x, st[k]? = some x := ⟨_, List.getElem?_eq_getElem hlt⟩
      obtain ⟨b', o, c', e', hc', hb, hX⟩ := (R2.out.1.below B2.out).at_ hi
      injection e' with e1 _ e3
      subst e1
      clear e3 hc'
      have q0 := (HB.out.cell (p := ⟨b', o + k * 2 + 0, none⟩) hb).trans (hX 0 _ rfl)
      have q1 := (HB.out.cell (p := ⟨b', o + k * 2 + 1, none⟩) hb).trans (hX 1 _ rfl)
      have HPS := Lib.hid (prevS_succ (last := last) hi)
      have HIx := Lib.hid hi
      obtain ⟨-, ⟨Ax, cx, hxe, -, -⟩, -⟩ := R2.out.2.1 x (List.mem_of_getElem? hi)
      clear hX hi
      obtain ⟨xn, xr, xl⟩ := x
      simp only [Nat.add_zero] at q0 q1 HPS hxe
      subst hxe
      generalize prevS last st k = pv at *
      have hzb := Nat.lt_of_lt_of_le hb HB.out.size
      go_upto_region 9 with fail
      obtain ⟨W4, hW4⟩ : ∃ W4, W4 = wr.alloc (.cells #[.int .i64 xn, .slice Ax xl.length cx] 85) := ⟨_, rfl⟩
      rw [← hW4]
      have X4 := Lib.hid (show W4.heap[wr.heap.size]? = some (.cells #[.int .i64 xn, .slice Ax xl.length cx] 85 (0, 0)) by rw [hW4]; exact heap_at _ _ _ rfl)
      have G4 := Lib.hid (show W4.heap[w2.heap.size]? = some (.cells #[.slice none 0 0, u, .int .i64 last, .slice A3 out.length c3] 66 (0, 0)) by rw [hW4]; exact heap_below HG.out (bel_alloc (Below.refl _ _) _))
      have O4 := Lib.hid (show W4.ownsRow (w2.heap.size + 1) 85 2 u k ((st.take k).flatMap Stg.cs) by rw [hW4]; exact HO.out.alloc _)
      have B4 := Lib.hid (show Below w2.heap.size w2 W4 by rw [hW4]; exact bel_alloc HB.out _)
      clear hW4 q0 q1
      clear HB HG HO
      obtain ⟨Au, cu, rfl⟩ := own_slice O4.out
      have xz := blk_lt X4.out
      have gz := blk_lt G4.out
      have q0 := cellsAt X4.out 0
      have q1 := cellsAt X4.out 1
      have g1 := cellsAt G4.out 1
      have gf := frozAt G4.out
      simp at q0 q1 g1
      go_wp2_with (at_builtin; refine wpList_append_own _ rfl _ _ 64 rfl (w2.heap.size + 1) 85 i0 (.agg #[.int .i64 0, .slice none 0 0]) 2 32 Try.underlying64 HI.out HZ0.out HZ1.out HZ2.out rfl (by decide) _ _ _ rfl (O4.out.alloc _) ⟨W4.heap.size, 0, none⟩ 1 1 [.int .i64 xn, .slice Ax xl.length cx] rfl rfl ?c1 ?c2 ?c3 ?c4 ?c5 ?_)
      case c2 => exact ⟨rfl, rfl⟩
      case c3 => unfold maxLen; omega
      case c4 => omega
      case c5 => omega
      intro v5 W5 hown5 hgrow5 _
      obtain ⟨A5, c5, rfl⟩ := own_slice hown5
      have BG := Lib.hid (((Below.refl (w2.heap.size + 1) W4).alloc (by omega) _).grown hgrow5 (by simp; omega) (fun q hq => (O4.out.lt q hq).1))
      have G5 := Lib.hid ((BG.out.block w2.heap.size (by omega)).trans G4.out)
      have B5 := Lib.hid (B4.out.trans (BG.out.mono (by omega)))
      have O5 := Lib.hid hown5
      clear hown5 hgrow5 q0 q1 g1 gf gz
      have g1 := cellsAt G5.out 1
      have gf := frozAt G5.out
      have gz := blk_lt G5.out
      simp at g1
      go_wp2_with fail
      go_roundw
      case rel =>
        refine ⟨k + 1, _, by omega, by go_num, by rw [HPS.out], by simpa using blk_set G5.out 1 _, ?_, B5.out.setCell (p := ⟨w2.heap.size, 1, none⟩) (Nat.le_refl _) _⟩
        rw [List.take_add_one, HIx.out, List.flatMap_append]
        exact own_set O5.out (p := ⟨w2.heap.size, 1, none⟩) (Nat.lt_succ_self _) _
      case measure => simp [intOf]; omega
    · have hkn : k = st.length := by omega
      subst hkn
      rw [List.take_length] at HO
      have G4 := Lib.hid HG.out
      have O4 := Lib.hid HO.out
      have B4 := Lib.hid HB.out
      have N0 := Lib.hid (heap_below M0.out HB.out)
      have N1 := Lib.hid (heap_below M1.out HB.out)
      rw [HP.out]
      clear HG HO HB
      obtain ⟨Au, cu, rfl⟩ := own_slice O4.out
      have gz := blk_lt G4.out
      have g1 := cellsAt G4.out 1
      have gf := frozAt G4.out
      simp at g1
      have hy1 := blk_lt N1.out
      have hy0 := blk_lt N0.out
      have d0 := cellsAt N1.out 0
      have d1 := cellsAt N1.out 1
      have d2 := cellsAt N1.out 2
      have d3 := cellsAt N1.out 3
      have dz := frozAt N1.out
      simp at d0 d1 d2 d3
      have s0 := cellsAt N0.out 0
      have s1 := cellsAt N0.out 1
      have s2 := cellsAt N0.out 2
      have s3 := cellsAt N0.out 3
      have sz := frozAt N0.out
      simp at s0 s1 s2 s3
      go_wp2_with (at_builtin; refine wpList_append_own _ rfl _ _ 64 rfl (w2.heap.size + 1) 85 i0 (.agg #[.int .i64 0, .slice none 0 0]) 2 32 Try.underlying64 HI.out HZ0.out HZ1.out HZ2.out rfl (by decide) _ _ _ rfl (O4.out.alloc _) ⟨wr.heap.size, 0, none⟩ 1 1 [.int .i64 n, .slice A1 op.length c1] rfl rfl ?d1 ?d2 ?d3 ?d4 ?d5 ?_)
      case d1 =>
        intro j u hj
        match j, hj with
        | 0, hj | 1, hj => (simp at hj; subst hj; simp [Addr.add])
      case d2 => intro u hu; simp at hu; rcases hu with rfl | rfl <;> rfl
      case d3 => unfold maxLen; omega
      case d4 => omega
      case d5 => simp; omega
      intro v5 W5 hown5 hgrow5 _
      obtain ⟨A5, c5, rfl⟩ := own_slice hown5
      have BG := Lib.hid (((Below.refl (w2.heap.size + 1) wr).alloc (by omega) _).grown hgrow5 (by simp; omega) (fun q hq => (O4.out.lt q hq).1))
      have G5 := Lib.hid ((BG.out.block w2.heap.size (by omega)).trans G4.out)
      have B5 := Lib.hid (B4.out.trans (BG.out.mono (by omega)))
      have O5 := Lib.hid hown5
      clear hown5 hgrow5 g1 gf gz d0 d1 d2 d3 dz s0 s1 s2 s3 sz hy1 hy0 N0 N1
      have g1 := cellsAt G5.out 1
      have gf := frozAt G5.out
      have gz := blk_lt G5.out
      simp at g1
      go_upto_region 16 with fail
      have G6 := blk_set G5.out 1 (.slice A5 (st.length + 1) c5)
      have B6 := Lib.hid (B5.out.setCell (p := ⟨w2.heap.size, 1, none⟩) (Nat.le_refl _) (.slice A5 (st.length + 1) c5))
      have O6 := Lib.hid (own_set O5.out (p := ⟨w2.heap.size, 1, none⟩) (Nat.lt_succ_self _) (.slice A5 (st.length + 1) c5))
      simp at G6
      clear g1 gf gz G5 B5 O5
      generalize W5.setCell ⟨w2.heap.size, 1, none⟩ (.slice A5 (st.length + 1) c5) = W6 at *
      have P2 := heap_below M1.out B6.out
      have hsz6 := blk_lt G6
      have s0' := cellsAt G6 0
      have s1' := cellsAt G6 1
      have s2' := cellsAt G6 2
      have s3' := cellsAt G6 3
      have sf' := frozAt G6
      have d0' := cellsAt P2 0
      have d1' := cellsAt P2 1
      have d2' := cellsAt P2 2
      have d3' := cellsAt P2 3
      have fz' := frozAt P2
      simp at s0' s1' s2' s3' d0' d1' d2' d3'
      go_wp2_with fail
      have E := set4 P2 (.slice none 0 0) (.slice A5 (st.length + 1) c5) (.int .i64 last) (.slice A3 out.length c3)
      have BE := Lib.hid (bel4 (bThen B2.out B6.out) (g := w.heap.size + 1) (by omega) (.slice none 0 0) (.slice A5 (st.length + 1) c5) (.int .i64 last) (.slice A3 out.length c3))
      have HO6 := Lib.hid (own_set (own_set (own_set (own_set O6.out (p := ⟨w.heap.size + 1, 0, none⟩) (by show w.heap.size + 1 < _; omega) (.slice none 0 0)) (p := ⟨w.heap.size + 1, 1, none⟩) (by show w.heap.size + 1 < _; omega) (.slice A5 (st.length + 1) c5)) (p := ⟨w.heap.size + 1, 2, none⟩) (by show w.heap.size + 1 < _; omega) (.int .i64 last)) (p := ⟨w.heap.size + 1, 3, none⟩) (by show w.heap.size + 1 < _; omega) (.slice A3 out.length c3))
      clear d0' d1' d2' d3' fz' s0' s1' s2' s3' P2 G6 sf'
      generalize ((((W6.setCell ⟨w.heap.size + 1, 0, none⟩ (.slice none 0 0)).setCell ⟨w.heap.size + 1, 1, none⟩ (.slice A5 (st.length + 1) c5)).setCell ⟨w.heap.size + 1, 2, none⟩ (.int .i64 last)).setCell ⟨w.heap.size + 1, 3, none⟩ (.slice A3 out.length c3)) = W7 at *
      have e0 := cellsAt E 0
      have e1 := cellsAt E 1
      have e2 := cellsAt E 2
      have e3 := cellsAt E 3
      simp at e0 e1 e2 e3
      refine bodyPost_ret (v := .tuple #[.agg #[.slice none 0 0, .slice A5 (st.length + 1) c5, .int .i64 last, .slice A3 out.length c3], .int .i64 0]) (by simp [results, Try.results33, go_sem, e0, e1, e2, e3]) rfl ⟨⟨_, .slice A1 op.length c1, rfl, ⟨_, _, _, rfl, ⟨Row.none_, by simp, by simp⟩, ⟨Row.of_own Stg.cs_len (n := st.length + 1) (by rw [List.flatMap_append]; exact HO6.out) (by simp), ?_, ?_⟩, H4.out, R3.out.below BE.out⟩⟩, BE.out⟩
      · intro x hx
        rcases List.mem_append.1 hx with h | h
        · exact (R2.out.2.1 x h).below BE.out
        · simp at h; subst h; exact ⟨HN.out, R1.out.below BE.out⟩
      · simp; unfold maxLen; omega
end Go.Proofs.Ytenpgkkefielfaa
