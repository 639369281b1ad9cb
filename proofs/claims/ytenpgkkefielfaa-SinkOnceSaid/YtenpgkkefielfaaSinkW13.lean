/-
  WALKS of layer 19: the reference's Add that takes a result.
-/
import Derived.Test.YtenpgkkefielfaaSinkW12
import Derived.Deep.DeepCutAuto
set_option linter.unusedVariables false
set_option linter.unusedSimpArgs false
namespace Go.Proofs.Ytenpgkkefielfaa
open Go.RowKit

def RaRel (op : List Res) (T : TypeId) (x1 x2 x3 : Value) (w0 : World) (i : Value) (wr : World) : Prop :=
  ∃ (k : Nat) (u : Value), k ≤ op.length ∧ i = .int .i64 k ∧ wr.heap[w0.heap.size]? = some (.cells #[u, x1, x2, x3] T (0, 0)) ∧ wr.ownsRow (w0.heap.size + 1) 41 5 u k ((op.take k).flatMap Res.cs) ∧ Below w0.heap.size w0 wr
theorem room_right {op : List Res} {st : List Stg} {last : Int} {out : List Res} {a : Int} (h : roomS op st last out = (a, true)) : rightS op st last out = true ∧ a = 20000 - cntS op st out ∧ cntS op st out ≤ 20000 := by
  unfold roomS at h
  by_cases hr : rightS op st last out = true
  · rw [if_pos hr] at h
    injection h with h _
    have hc : cntS op st out ≤ 20000 := by
      unfold rightS headS at hr
      simp only [Bool.and_eq_true, decide_eq_true_eq] at hr
      exact hr.1.2.2.2.1
    exact ⟨hr, by rw [(cnt_lens hc).2.2.2]; exact h.symm, hc⟩
  · rw [if_neg hr] at h
    injection h with _ h
    simp at h
theorem room_lens {op : List Res} {st : List Stg} {last : Int} {out : List Res} {a : Int} (h : roomS op st last out = (a, true)) : op.length ≤ 20000 ∧ out.length ≤ 20000 :=
  ⟨(cnt_lens (room_right h).2.2).1, (cnt_lens (room_right h).2.2).2.1⟩
set_option maxRecDepth 100000 in
set_option maxHeartbeats 1000000 in
theorem radd_yes (op : List Res) (st : List Stg) (last : Int) (out : List Res) (r : Res) (v : Value) (w : World) (hv : SinkAt w v op st last out) (a : Int) (ha : 0 < a) (h : roomS op st last out = (a, true)) (h2 : mayB r = true) (hwf : r.Wf) :
    Calls Try.prog 31 #[v, r.val] w fun e w' => ∃ v', e = .returned (.tuple #[v', .int .i64 0]) ∧ SinkAt w' v' (op ++ [r]) st last out ∧ Below w.heap.size w w' := by
  have HR := Lib.hid (fun v W hW => rroom_any op st last out v W hW a true h)
  obtain ⟨i0, hi, hi0, hi1, hi2⟩ := info_parts info_rs
  have HI := Lib.hid hi
  have HZ0 := Lib.hid hi0
  have HZ1 := Lib.hid hi1
  have HZ2 := Lib.hid hi2
  clear hi hi0 hi1 hi2
  have hol : op.length ≤ 20000 := (room_lens h).1
  have HM := Lib.hid (fun W => rmay_any r W true h2)
  have HV := Lib.hid hv
  obtain ⟨vo, vs, vu, ev, hR1, hR2, hR4, hR3⟩ := hv
  have R2 := Lib.hid hR2
  have R3 := Lib.hid hR3
  have H4 := Lib.hid hR4
  have R1 := Lib.hid hR1
  have hv : SinkAt w v op st last out := ⟨vo, vs, vu, ev, hR1, hR2, hR4, hR3⟩
  clear hR1 hR2 hR3 hR4
  obtain ⟨A1, c1, A2, c2, A3, c3, ev2⟩ := sink_form hv
  subst ev2
  injection ev with ev
  injection ev with ev
  simp at ev
  obtain ⟨rfl, rfl, rfl⟩ := ev
  obtain ⟨rl, rh, rk, rn, rv⟩ := r
  clear hv h h2
  unfold Res.val at HM ⊢
  go_enter Try.func31, Try.ntmps31
  go_wp2_with fail
  obtain ⟨W1, hW1⟩ : ∃ W1, W1 = ((w.alloc (.cells #[.slice A1 op.length c1, .slice A2 st.length c2, .int .i64 last, .slice A3 out.length c3] 66)).alloc (.cells #[.int .i64 rl, .int .i64 rh, .string rk, .int .i64 rn, .int .i64 rv] 41)).alloc (.cells #[.slice none 0 0, .slice none 0 0, .int .i64 0, .slice none 0 0] 66) := ⟨_, rfl⟩
  rw [← hW1]
  have BW := Lib.hid (show Below w.heap.size w W1 by rw [hW1]; exact bel_alloc (bel_alloc (bel_alloc (Below.refl _ _) _) _) _)
  have K2 := Lib.hid (show W1.heap[w.heap.size + 1 + 1]? = some (.cells #[.slice none 0 0, .slice none 0 0, .int .i64 0, .slice none 0 0] 66 (0, 0)) by rw [hW1]; exact heap_at _ _ _ (by simp))
  have K1 := Lib.hid (show W1.heap[w.heap.size + 1]? = some (.cells #[.int .i64 rl, .int .i64 rh, .string rk, .int .i64 rn, .int .i64 rv] 41 (0, 0)) by rw [hW1]; exact heap_below (heap_at (w.alloc _) _ (w.heap.size + 1) (by simp)) (bel_alloc (Below.refl _ _) _))
  have K0 := Lib.hid (show W1.heap[w.heap.size]? = some (.cells #[.slice A1 op.length c1, .slice A2 st.length c2, .int .i64 last, .slice A3 out.length c3] 66 (0, 0)) by rw [hW1]; exact newA (bel_alloc (bel_alloc (Below.refl _ _) _) _))
  clear hW1
  refine (HR.out _ _ (HV.out.below BW.out)).mono ?_
  rintro e w1 ⟨rfl, hb1⟩
  have B1 := Lib.hid (bThen BW.out hb1)
  have L2 := Lib.hid (heap_below K2.out hb1)
  have L0 := Lib.hid (heap_below K0.out hb1)
  have L1 := Lib.hid (heap_below K1.out hb1)
  clear hb1 K2 K1 K0
  have hz1 := blk_lt L1.out
  have r0 := cellsAt L1.out 0
  have r1 := cellsAt L1.out 1
  have r2 := cellsAt L1.out 2
  have r3 := cellsAt L1.out 3
  have r4 := cellsAt L1.out 4
  simp at r0 r1 r2 r3 r4
  go_wp2_with fail
  refine (HM.out _).mono ?_
  rintro e w2 ⟨rfl, hb2⟩
  have B2 := Lib.hid (bThen B1.out hb2)
  have M2 := Lib.hid (heap_below L2.out hb2)
  have M1 := Lib.hid (heap_below L1.out hb2)
  have M0 := Lib.hid (heap_below L0.out hb2)
  clear hb2 L2 L1 L0 r0 r1 r2 r3 r4 hz1
  have hz2 := blk_lt M2.out
  have hz1 := blk_lt M1.out
  have hz0 := blk_lt M0.out
  have d0 := cellsAt M2.out 0
  have d1 := cellsAt M2.out 1
  have d2 := cellsAt M2.out 2
  have d3 := cellsAt M2.out 3
  have fz := frozAt M2.out
  have s0 := cellsAt M0.out 0
  have s1 := cellsAt M0.out 1
  have s2 := cellsAt M0.out 2
  have s3 := cellsAt M0.out 3
  have sz := frozAt M0.out
  simp at d0 d1 d2 d3 s0 s1 s2 s3
  go_wp2_with fail
  obtain ⟨W3, hW3⟩ : ∃ W3, W3 = w2.alloc (.cells #[.slice none 0 0, .slice A2 st.length c2, .int .i64 last, .slice A3 out.length c3] 66) := ⟨_, rfl⟩
  rw [← hW3]
  have G3 := Lib.hid (show W3.heap[w2.heap.size]? = some (.cells #[.slice none 0 0, .slice A2 st.length c2, .int .i64 last, .slice A3 out.length c3] 66 (0, 0)) by rw [hW3]; exact heap_at _ _ _ rfl)
  have B3 := Lib.hid (show Below w2.heap.size w2 W3 by rw [hW3]; exact bel_alloc (Below.refl _ _) _)
  have hz3 : w2.heap.size + 1 ≤ W3.heap.size := by rw [hW3]; simp
  clear hW3 d0 d1 d2 d3 s0 s1 s2 s3 fz sz
  have ha0 : (a == 0) = false := by simp; omega
  simp only [ha0]
  go_loopw [37] (fun i wr => RaRel op 66 (.slice A2 st.length c2) (.int .i64 last) (.slice A3 out.length c3) w2 i wr) (fun i _ => op.length - (intOf i).toNat)
  case atStart => exact ⟨0, _, Nat.zero_le _, rfl, G3.out, own_base (World.ownsRow_nil _ _ _ _) hz3, B3.out⟩
  case round =>
    obtain ⟨k, u, hk, rfl, hg, hown, hbel⟩ := hrel
    have HB := Lib.hid hbel
    have HG := Lib.hid hg
    have HO := Lib.hid hown
    clear hbel hg hown
    by_cases hlt : k < op.length
    · obtain ⟨x, hi⟩ : ∃ x, op[k]? = some x := ⟨_, List.getElem?_eq_getElem hlt⟩
      obtain ⟨b', o, c', e', hc', hb, hX⟩ := (R1.out.1.below B2.out).at_ hi
      injection e' with e1 _ e3
      subst e1 e3
      have c0 := (HB.out.cell (p := ⟨b', o + k * 5 + 0, none⟩) hb).trans (hX 0 _ rfl)
      have c1 := (HB.out.cell (p := ⟨b', o + k * 5 + 1, none⟩) hb).trans (hX 1 _ rfl)
      have c2' := (HB.out.cell (p := ⟨b', o + k * 5 + 2, none⟩) hb).trans (hX 2 _ rfl)
      have c3' := (HB.out.cell (p := ⟨b', o + k * 5 + 3, none⟩) hb).trans (hX 3 _ rfl)
      have c4 := (HB.out.cell (p := ⟨b', o + k * 5 + 4, none⟩) hb).trans (hX 4 _ rfl)
      have HIx := Lib.hid hi
      clear hX hi
      obtain ⟨xl, xh, xk, xn, xv⟩ := x
      simp only [Nat.add_zero] at c0 c1 c2' c3' c4
      go_upto_region 10 with fail
      obtain ⟨W4, hW4⟩ : ∃ W4, W4 = wr.alloc (.cells #[.int .i64 xl, .int .i64 xh, .string xk, .int .i64 xn, .int .i64 xv] 41) := ⟨_, rfl⟩
      rw [← hW4]
      have X4 := Lib.hid (show W4.heap[wr.heap.size]? = some (.cells #[.int .i64 xl, .int .i64 xh, .string xk, .int .i64 xn, .int .i64 xv] 41 (0, 0)) by rw [hW4]; exact heap_at _ _ _ rfl)
      have G4 := Lib.hid (show W4.heap[w2.heap.size]? = some (.cells #[u, .slice A2 st.length c2, .int .i64 last, .slice A3 out.length c3] 66 (0, 0)) by rw [hW4]; exact heap_below HG.out (bel_alloc (Below.refl _ _) _))
      have O4 := Lib.hid (show W4.ownsRow (w2.heap.size + 1) 41 5 u k ((op.take k).flatMap Res.cs) by rw [hW4]; exact HO.out.alloc _)
      have B4 := Lib.hid (show Below w2.heap.size w2 W4 by rw [hW4]; exact bel_alloc HB.out _)
      clear hW4 c0 c1 c2' c3' c4
      clear HB HG HO
      obtain ⟨Au, cu, rfl⟩ := own_slice O4.out
      have xz := blk_lt X4.out
      have gz := blk_lt G4.out
      have q0 := cellsAt X4.out 0
      have q1 := cellsAt X4.out 1
      have q2 := cellsAt X4.out 2
      have q3 := cellsAt X4.out 3
      have q4 := cellsAt X4.out 4
      have g0 := cellsAt G4.out 0
      have gf := frozAt G4.out
      simp at q0 q1 q2 q3 q4 g0
      go_wp2_with (at_builtin; refine wpList_append_own _ rfl _ _ 63 rfl (w2.heap.size + 1) 41 i0 (.agg #[.int .i64 0, .int .i64 0, .string ⟨#[]⟩, .int .i64 0, .int .i64 0]) 5 48 Try.underlying63 HI.out HZ0.out HZ1.out HZ2.out rfl (by decide) _ _ _ rfl (O4.out.alloc _) ⟨W4.heap.size, 0, none⟩ 1 1 [.int .i64 xl, .int .i64 xh, .string xk, .int .i64 xn, .int .i64 xv] rfl rfl ?c1 ?c2 ?c3 ?c4 ?c5 ?_)
      case c2 => exact ⟨rfl, rfl, rfl, rfl, rfl⟩
      case c3 => unfold maxLen; omega
      case c4 => omega
      case c5 => omega
      intro v5 W5 hown5 hgrow5 _
      obtain ⟨A5, c5, rfl⟩ := own_slice hown5
      have BG := Lib.hid (((Below.refl (w2.heap.size + 1) W4).alloc (by omega) _).grown hgrow5 (by simp; omega) (fun q hq => (O4.out.lt q hq).1))
      have G5 := Lib.hid ((BG.out.block w2.heap.size (by omega)).trans G4.out)
      have B5 := Lib.hid (B4.out.trans (BG.out.mono (by omega)))
      have O5 := Lib.hid hown5
      clear hown5 hgrow5 q0 q1 q2 q3 q4 g0 gf gz
      have g0 := cellsAt G5.out 0
      have gf := frozAt G5.out
      have gz := blk_lt G5.out
      simp at g0
      go_wp2_with fail
      go_roundw
      case rel =>
        refine ⟨k + 1, _, by omega, by go_num, by simpa using blk_set G5.out 0 _, ?_, B5.out.setCell (p := ⟨w2.heap.size, 0, none⟩) (Nat.le_refl _) _⟩
        rw [List.take_add_one, HIx.out, List.flatMap_append]
        exact own_set O5.out (p := ⟨w2.heap.size, 0, none⟩) (Nat.lt_succ_self _) _
      case measure => simp [intOf]; omega
    · have hkn : k = op.length := by omega
      subst hkn
      rw [List.take_length] at HO
      have G4 := Lib.hid HG.out
      have O4 := Lib.hid HO.out
      have B4 := Lib.hid HB.out
      have r1 := Lib.hid (heap_below M1.out HB.out)
      clear HG HO HB
      obtain ⟨Au, cu, rfl⟩ := own_slice O4.out
      have gz := blk_lt G4.out
      have g0 := cellsAt G4.out 0
      have gf := frozAt G4.out
      have xz := blk_lt r1.out
      have q0 := cellsAt r1.out 0
      have q1 := cellsAt r1.out 1
      have q2 := cellsAt r1.out 2
      have q3 := cellsAt r1.out 3
      have q4 := cellsAt r1.out 4
      simp at q0 q1 q2 q3 q4 g0
      go_wp2_with (at_builtin; refine wpList_append_own _ rfl _ _ 63 rfl (w2.heap.size + 1) 41 i0 (.agg #[.int .i64 0, .int .i64 0, .string ⟨#[]⟩, .int .i64 0, .int .i64 0]) 5 48 Try.underlying63 HI.out HZ0.out HZ1.out HZ2.out rfl (by decide) _ _ _ rfl (O4.out.alloc _) ⟨wr.heap.size, 0, none⟩ 1 1 [.int .i64 rl, .int .i64 rh, .string rk, .int .i64 rn, .int .i64 rv] rfl rfl ?d1 ?d2 ?d3 ?d4 ?d5 ?_)
      case d1 =>
        intro j u hj
        match j, hj with
        | 0, hj | 1, hj | 2, hj | 3, hj | 4, hj => (simp at hj; subst hj; simp [Addr.add])
      case d2 => intro u hu; simp at hu; rcases hu with rfl | rfl | rfl | rfl | rfl <;> rfl
      case d3 => unfold maxLen; omega
      case d4 => omega
      case d5 => simp; omega
      intro v5 W5 hown5 hgrow5 _
      obtain ⟨A5, c5, rfl⟩ := own_slice hown5
      have BG := Lib.hid (((Below.refl (w2.heap.size + 1) wr).alloc (by omega) _).grown hgrow5 (by simp; omega) (fun q hq => (O4.out.lt q hq).1))
      have G5 := Lib.hid ((BG.out.block w2.heap.size (by omega)).trans G4.out)
      have B5 := Lib.hid (B4.out.trans (BG.out.mono (by omega)))
      have O5 := Lib.hid hown5
      clear hown5 hgrow5 q0 q1 q2 q3 q4 g0 gf gz
      have g0 := cellsAt G5.out 0
      have gf := frozAt G5.out
      have gz := blk_lt G5.out
      simp at g0
      go_upto_region 13 with fail
      have G6 := blk_set G5.out 0 (.slice A5 (op.length + 1) c5)
      have B6 := Lib.hid (B5.out.setCell (p := ⟨w2.heap.size, 0, none⟩) (Nat.le_refl _) (.slice A5 (op.length + 1) c5))
      have O6 := Lib.hid (own_set O5.out (p := ⟨w2.heap.size, 0, none⟩) (Nat.lt_succ_self _) (.slice A5 (op.length + 1) c5))
      simp at G6
      clear g0 gf gz G5 B5 O5
      generalize W5.setCell ⟨w2.heap.size, 0, none⟩ (.slice A5 (op.length + 1) c5) = W6 at *
      have P2 := heap_below M2.out B6.out
      have hsz6 := blk_lt G6
      have s0' := cellsAt G6 0
      have s1' := cellsAt G6 1
      have s2' := cellsAt G6 2
      have s3' := cellsAt G6 3
      have sf' := frozAt G6
      have d0' := cellsAt P2 0
      have d1' := cellsAt P2 1
      have d2' := cellsAt P2 2
      have d3' := cellsAt P2 3
      have fz' := frozAt P2
      simp at s0' s1' s2' s3' d0' d1' d2' d3'
      go_wp2_with fail
      have E := set4 P2 (.slice A5 (op.length + 1) c5) (.slice A2 st.length c2) (.int .i64 last) (.slice A3 out.length c3)
      have BE := Lib.hid (bel4 (bThen B2.out B6.out) (g := w.heap.size + 1 + 1) (by omega) (.slice A5 (op.length + 1) c5) (.slice A2 st.length c2) (.int .i64 last) (.slice A3 out.length c3))
      have HO6 := Lib.hid (own_set (own_set (own_set (own_set O6.out (p := ⟨w.heap.size + 1 + 1, 0, none⟩) (by show w.heap.size + 1 + 1 < _; omega) (.slice A5 (op.length + 1) c5)) (p := ⟨w.heap.size + 1 + 1, 1, none⟩) (by show w.heap.size + 1 + 1 < _; omega) (.slice A2 st.length c2)) (p := ⟨w.heap.size + 1 + 1, 2, none⟩) (by show w.heap.size + 1 + 1 < _; omega) (.int .i64 last)) (p := ⟨w.heap.size + 1 + 1, 3, none⟩) (by show w.heap.size + 1 + 1 < _; omega) (.slice A3 out.length c3))
      clear d0' d1' d2' d3' fz' s0' s1' s2' s3' P2 G6 sf'
      generalize ((((W6.setCell ⟨w.heap.size + 1 + 1, 0, none⟩ (.slice A5 (op.length + 1) c5)).setCell ⟨w.heap.size + 1 + 1, 1, none⟩ (.slice A2 st.length c2)).setCell ⟨w.heap.size + 1 + 1, 2, none⟩ (.int .i64 last)).setCell ⟨w.heap.size + 1 + 1, 3, none⟩ (.slice A3 out.length c3)) = W7 at *
      have e0 := cellsAt E 0
      have e1 := cellsAt E 1
      have e2 := cellsAt E 2
      have e3 := cellsAt E 3
      simp at e0 e1 e2 e3
      refine bodyPost_ret (v := .tuple #[.agg #[.slice A5 (op.length + 1) c5, .slice A2 st.length c2, .int .i64 last, .slice A3 out.length c3], .int .i64 0]) (by simp [results, Try.results31, go_sem, e0, e1, e2, e3]) rfl ⟨_, rfl, ⟨_, _, _, rfl, ⟨Row.of_own Res.cs_len (n := op.length + 1) (by rw [List.flatMap_append]; exact HO6.out) (by simp), ?_, ?_⟩, ⟨R2.out.1.below BE.out, fun x hx => (R2.out.2.1 x hx).below BE.out, R2.out.2.2⟩, H4.out, R3.out.below BE.out⟩, BE.out⟩
      · intro x hx
        rcases List.mem_append.1 hx with h | h
        · exact R1.out.2.1 x h
        · simp at h; subst h; exact hwf
      · simp; unfold maxLen; omega
end Go.Proofs.Ytenpgkkefielfaa
