/-
  WALK of the law MarkTwice.
-/
import Derived.Test.YtdanfeldbdooeaaMarkW24
import Derived.Deep.RegionLaw
import Derived.Deep.DeepCutAuto
set_option linter.unusedVariables false
set_option linter.unusedSimpArgs false
namespace Go.Proofs.Ytdanfeldbdooeaa
open Go.RowKit

theorem set_twice {li : List Inp} {lh : List Hld} {o : Int} (h : rightM li lh o = true) {N : Nat} {x : Inp} (hx : li[N]? = some x) (t : Int) :
    setM li lh o (N : Int) t = ⟨li.set N ⟨max x.mark (clampT t), false⟩, lh, o, 0⟩ ∧ rightM (li.set N ⟨max x.mark (clampT t), false⟩) lh o = true ∧
    setM (li.set N ⟨max x.mark (clampT t), false⟩) lh o (N : Int) (min t (max x.mark (clampT t))) = ⟨li.set N ⟨max x.mark (clampT t), false⟩, lh, o, 0⟩ := by
  have hlt := (List.getElem?_eq_some_iff.1 hx).1
  have hp := right_holds h
  have hxm := inputs_mem hp.2.2.2.2.2 x (List.mem_of_getElem? hx)
  have hr := right_set h N (time_max hxm (clamp_time t)) false
  have hin : ∀ l : List Inp, l.length = li.length → rightM l lh o = true → inM l lh o (N : Int) = true := by
    intro l hl hr
    unfold inM
    rw [hr, hl]
    simp
    exact hlt
  refine ⟨?_, hr, ?_⟩
  · unfold setM
    rw [if_pos (hin li rfl h), Int.toNat_natCast, inAt_get hx]
  · unfold setM
    rw [if_pos (hin _ (by rw [List.length_set]) hr), Int.toNat_natCast, inAt_get (List.getElem?_set_self hlt), List.set_set]
    have hm := timeB_rng (time_max hxm (clamp_time t))
    have : max (max x.mark (clampT t)) (clampT (min t (max x.mark (clampT t)))) = max x.mark (clampT t) := by
      have h2 : clampT (min t (max x.mark (clampT t))) ≤ max x.mark (clampT t) := by unfold clampT at *; omega
      omega
    rw [this]
def TwRel (li L2 : List Inp) (lh : List Hld) (o : Int) (Wa : World) (p e : Value) (W : World) : Prop :=
  ∃ (g : Nat) (B1 B2 : Option Addr) (e1 e2 : Nat), p = .pointer (some ⟨g, 0, none⟩) ∧ e = .int .i64 0 ∧ W.heap[g]? = some (.cells #[.slice B1 li.length e1, .slice B2 lh.length e2, .int .i64 o] 25 (0, 0)) ∧ Row Inp.cs 2 W (.slice B1 li.length e1) L2 ∧ Row Hld.cs 2 W (.slice B2 lh.length e2) lh ∧ Below Wa.heap.size Wa W
theorem tw_new {li L2 : List Inp} {lh : List Hld} {o : Int} {Wa w9 : World} {G1 G2 : Option Addr} {g1 g2 : Nat} (XI : Row Inp.cs 2 w9 (.slice G1 li.length g1) L2) (XH : Row Hld.cs 2 w9 (.slice G2 lh.length g2) lh) (hb9 : Below Wa.heap.size Wa w9) :
    TwRel li L2 lh o Wa (.pointer (some ⟨w9.heap.size, 0, none⟩)) (.int .i64 0) (w9.alloc (.cells #[.slice G1 li.length g1, .slice G2 lh.length g2, .int .i64 o] 25)) :=
  ⟨w9.heap.size, G1, G2, g1, g2, rfl, rfl, heap_at _ _ _ rfl, XI.alloc _, XH.alloc _, bel_alloc hb9 _⟩
theorem tw_old {li L2 : List Inp} {lh : List Hld} {o : Int} {Wa w9 : World} {G1 G2 : Option Addr} {g1 g2 : Nat} (XI : Row Inp.cs 2 w9 (.slice G1 li.length g1) L2) (XH : Row Hld.cs 2 w9 (.slice G2 lh.length g2) lh) (hb9 : Below Wa.heap.size Wa w9)
    (hz : w9.heap[Wa.heap.size]? = some (.cells #[.slice none 0 0, .slice none 0 0, .int .i64 0] 25 (0, 0))) :
    TwRel li L2 lh o Wa (.pointer (some ⟨Wa.heap.size, 0, none⟩)) (.int .i64 0) (((w9.setCell ⟨Wa.heap.size, 0, none⟩ (.slice G1 li.length g1)).setCell ⟨Wa.heap.size, 1, none⟩ (.slice G2 lh.length g2)).setCell ⟨Wa.heap.size, 2, none⟩ (.int .i64 o)) :=
  ⟨Wa.heap.size, G1, G2, g1, g2, rfl, rfl, setC3 hz _ _ _, keepI hz _ _ _ XI, keepH hz _ _ _ XH, belC3 hb9 (Nat.le_refl _) _ _ _⟩
def ThRel (lh : List Hld) (no : Int) (W0 : World) (b i : Value) (wr : World) : Prop := ∃ k : Nat, k ≤ lh.length ∧ i = .int .i64 k ∧ b = .bool (decide (no < 0) || hasH (lh.take k) no) ∧ Below W0.heap.size W0 wr
set_option maxRecDepth 100000 in
set_option maxHeartbeats 4000000 in
theorem twice_walk (i t no at_ : Int) (hno : wfL no) (v : Value) (li : List Inp) (lh : List Hld) (o : Int) (w : World) (h : MarksAt w v li lh o) :
    Calls Try.prog 8 #[v, .int .i64 i, .int .i64 t, .int .i64 no, .int .i64 at_] w fun e w' => e = .returned (.bool true) ∧ Below w.heap.size w w' := by
  have HM := Lib.hid h
  have HNO := Lib.hid hno
  obtain ⟨vi, vh, rfl, r1, r2, -, w2, -, m1, m2⟩ := h
  have R1 := Lib.hid r1
  have R2 := Lib.hid r2
  have WFH := Lib.hid w2
  obtain ⟨A1, q1, rfl, -⟩ := r1
  obtain ⟨A2, q2, rfl, -⟩ := r2
  unfold maxLen at m1 m2
  clear hno w2
  obtain ⟨q, hq⟩ : ∃ q, rightM li lh o = q := ⟨_, rfl⟩
  have HQ := Lib.hid hq
  have HR := Lib.hid (fun v W (hm : MarksAt W v li lh o) => mright_any li lh o v W hm q hq)
  clear hq
  go_enter Try.func8, Try.ntmps8
  go_upto_region 1 with fail
  obtain ⟨W1, hW2⟩ : ∃ X, X = (w).alloc (.cells #[.slice A1 li.length q1, .slice A2 lh.length q2, .int .i64 o] 25) := ⟨_, rfl⟩
  rw [← hW2]
  have hb3 : Below w.heap.size w W1 := by rw [hW2]; exact bel_alloc (Below.refl _ _) _
  have Ns := Lib.hid (show W1.heap[w.heap.size]? = some (.cells #[.slice A1 li.length q1, .slice A2 lh.length q2, .int .i64 o] 25 (0, 0)) by rw [hW2]; exact heap_at (w) _ (w.heap.size) (by simp))
  clear hW2
  have BB4 := Lib.hid hb3
  clear hb3
  have Bls := Ns
  clear Ns
  have zs := blk_lt Bls.out
  have xs0 := cellsAt Bls.out 0
  have xs1 := cellsAt Bls.out 1
  have xs2 := cellsAt Bls.out 2
  have fs := frozAt Bls.out
  simp at xs0 xs1 xs2
  by_cases l1 : 100 < li.length
  · have c1 : decide (100 < (li.length : Int)) = true := by simp; omega
    go_wp2_with fail
    refine (malive_any _).mono ?_
    rintro e w5 ⟨rfl, hb6⟩
    clear zs fs xs0 xs1 xs2
    have Z := Lib.hid (heap_below Bls.out hb6)
    clear Bls
    have Bls := Z
    clear Z
    have BB7 := Lib.hid (bThen BB4.out hb6)
    clear hb6
    go_wp2_with fail
    go_ret
    exact ⟨rfl, BB7.out⟩
  · have c1 : decide (100 < (li.length : Int)) = false := by simp; omega
    by_cases l2 : 100 < lh.length
    · have c2 : decide (100 < (lh.length : Int)) = true := by simp; omega
      go_wp2_with fail
      refine (malive_any _).mono ?_
      rintro e w5 ⟨rfl, hb6⟩
      clear zs fs xs0 xs1 xs2
      have Z := Lib.hid (heap_below Bls.out hb6)
      clear Bls
      have Bls := Z
      clear Z
      have BB7 := Lib.hid (bThen BB4.out hb6)
      clear hb6
      go_wp2_with fail
      go_ret
      exact ⟨rfl, BB7.out⟩
    · have c2 : decide (100 < (lh.length : Int)) = false := by simp; omega
      go_wp2_with fail
      refine (HR.out _ _ (HM.out.below BB4.out)).mono ?_
      rintro e w5 ⟨rfl, hb6⟩
      clear zs fs xs0 xs1 xs2
      have Z := Lib.hid (heap_below Bls.out hb6)
      clear Bls
      have Bls := Z
      clear Z
      have BB7 := Lib.hid (bThen BB4.out hb6)
      clear hb6
      have zs := blk_lt Bls.out
      have xs0 := cellsAt Bls.out 0
      have xs1 := cellsAt Bls.out 1
      have xs2 := cellsAt Bls.out 2
      have fs := frozAt Bls.out
      simp at xs0 xs1 xs2
      cases q with
      | false =>
        go_wp2_with fail
        refine (malive_any _).mono ?_
        rintro e w8 ⟨rfl, hb9⟩
        clear zs fs xs0 xs1 xs2
        have Z := Lib.hid (heap_below Bls.out hb9)
        clear Bls
        have Bls := Z
        clear Z
        have BB10 := Lib.hid (bThen BB7.out hb9)
        clear hb9
        go_wp2_with fail
        go_ret
        exact ⟨rfl, BB10.out⟩
      | true =>
        by_cases h0 : i < 0
        · have c3 : decide (i < 0) = true := by simpa using h0
          go_wp2_with fail
          refine (malive_any _).mono ?_
          rintro e w8 ⟨rfl, hb9⟩
          clear zs fs xs0 xs1 xs2
          have Z := Lib.hid (heap_below Bls.out hb9)
          clear Bls
          have Bls := Z
          clear Z
          have BB10 := Lib.hid (bThen BB7.out hb9)
          clear hb9
          go_wp2_with fail
          go_ret
          exact ⟨rfl, BB10.out⟩
        · have c3 : decide (i < 0) = false := by simpa using h0
          by_cases h1 : (li.length : Int) ≤ i
          · have c4 : decide ((li.length : Int) ≤ i) = true := by simpa using h1
            go_wp2_with fail
            refine (malive_any _).mono ?_
            rintro e w8 ⟨rfl, hb9⟩
            clear zs fs xs0 xs1 xs2
            have Z := Lib.hid (heap_below Bls.out hb9)
            clear Bls
            have Bls := Z
            clear Z
            have BB10 := Lib.hid (bThen BB7.out hb9)
            clear hb9
            go_wp2_with fail
            go_ret
            exact ⟨rfl, BB10.out⟩
          · obtain ⟨N, hN⟩ : ∃ N : Nat, i = N := ⟨i.toNat, by omega⟩
            subst hN
            clear c3
            have c3 : decide ((N : Int) < 0) = false := by simp; try omega
            have c4 : decide ((li.length : Int) ≤ (N : Int)) = false := by simp; omega
            have hNl : N < li.length := by omega
            have hNi : (N : Int) < (li.length : Int) := by omega
            have hN0 : (0 : Int) ≤ (N : Int) := by omega
            obtain ⟨x, hx⟩ : ∃ x, li[N]? = some x := ⟨_, List.getElem?_eq_getElem hNl⟩
            have HST := Lib.hid (set_twice HQ.out hx t)
            obtain ⟨am, ham⟩ : ∃ m, max x.mark (clampT t) = m := ⟨_, rfl⟩
            rw [ham] at HST
            clear ham
            have hset : (li.set N ⟨am, false⟩)[N]? = some ⟨am, false⟩ := List.getElem?_set_self hNl
            obtain ⟨L2, hL2⟩ : ∃ L, li.set N ⟨am, false⟩ = L := ⟨_, rfl⟩
            have hl2 : L2.length = li.length := by rw [← hL2, List.length_set]
            rw [hL2] at HST hset
            have HLN := Lib.hid hl2
            have HSE := Lib.hid hset
            have h8 := (right_holds HQ.out).2.2.2.1
            have h32 := (right_holds HQ.out).2.1
            clear hL2 hset hl2 hx
            go_wp2_with fail
            refine (malive_any _).mono ?_
            rintro e w8 ⟨rfl, hb9⟩
            clear zs fs xs0 xs1 xs2
            have Z := Lib.hid (heap_below Bls.out hb9)
            clear Bls
            have Bls := Z
            clear Z
            have BB10 := Lib.hid (bThen BB7.out hb9)
            clear hb9
            have zs := blk_lt Bls.out
            have xs0 := cellsAt Bls.out 0
            have xs1 := cellsAt Bls.out 1
            have xs2 := cellsAt Bls.out 2
            have fs := frozAt Bls.out
            simp at xs0 xs1 xs2
            go_wp2_with fail
            have HX := mset_any _ _ _ (N : Int) t _ _ (HM.out.below BB10.out)
            rw [HST.out.1] at HX
            refine HX.mono ?_
            rintro e w11 ⟨vi, vh, rfl, hri, hrh, hb12⟩
            have AI := Lib.hid hri
            have AH := Lib.hid hrh
            obtain ⟨B1, b1, rfl, -⟩ := hri
            obtain ⟨B2, b2, rfl, -⟩ := hrh
            clear HX
            rw [HLN.out] at AI ⊢
            clear zs fs xs0 xs1 xs2
            have Z := Lib.hid (heap_below Bls.out hb12)
            clear Bls
            have Bls := Z
            clear Z
            have BB13 := Lib.hid (bThen BB10.out hb12)
            clear hb12
            go_upto_region 4 with fail
            obtain ⟨W14, hW15⟩ : ∃ X, X = (w11).alloc (.cells #[.slice B1 li.length b1, .slice B2 lh.length b2, .int .i64 o] 25) := ⟨_, rfl⟩
            rw [← hW15]
            have hb16 : Below w11.heap.size w11 W14 := by rw [hW15]; exact bel_alloc (Below.refl _ _) _
            have Na := Lib.hid (show W14.heap[w11.heap.size]? = some (.cells #[.slice B1 li.length b1, .slice B2 lh.length b2, .int .i64 o] 25 (0, 0)) by rw [hW15]; exact heap_at (w11) _ (w11.heap.size) (by simp))
            clear hW15
            have Z := Lib.hid (heap_below Bls.out hb16)
            clear Bls
            have Bls := Z
            clear Z
            have Z := Lib.hid (Row.below AI.out hb16)
            clear AI
            have AI := Z
            clear Z
            have Z := Lib.hid (Row.below AH.out hb16)
            clear AH
            have AH := Z
            clear Z
            have BB17 := Lib.hid (bThen BB13.out hb16)
            clear hb16
            have Bla := Na
            clear Na
            have zs := blk_lt Bls.out
            have xs0 := cellsAt Bls.out 0
            have xs1 := cellsAt Bls.out 1
            have xs2 := cellsAt Bls.out 2
            have fs := frozAt Bls.out
            simp at xs0 xs1 xs2
            have za := blk_lt Bla.out
            have xa0 := cellsAt Bla.out 0
            have xa1 := cellsAt Bla.out 1
            have xa2 := cellsAt Bla.out 2
            have fa := frozAt Bla.out
            simp at xa0 xa1 xa2
            have c5 : ((li.length : Int) != (li.length : Int)) = false := by simp
            have c6 : decide ((li.length : Int) = (li.length : Int)) = true := by simp
            obtain ⟨p', o', c', e', hc', hp', hX⟩ := AI.out.at_ HSE.out
            rw [HLN.out] at e' hc'
            injection e' with e1 e2 e3
            clear e2
            subst e1 e3
            have k0 := hX 0 _ rfl
            clear hX
            simp only [Nat.add_zero] at k0
            clear zs fs xs0 xs1 xs2 za fa xa0 xa1 xa2
            have zs := blk_lt Bls.out
            have xs0 := cellsAt Bls.out 0
            have xs1 := cellsAt Bls.out 1
            have xs2 := cellsAt Bls.out 2
            have fs := frozAt Bls.out
            simp at xs0 xs1 xs2
            have za := blk_lt Bla.out
            have xa0 := cellsAt Bla.out 0
            have xa1 := cellsAt Bla.out 1
            have xa2 := cellsAt Bla.out 2
            have fa := frozAt Bla.out
            simp at xa0 xa1 xa2
            go_upto_region 6 with fail
            have HS2 : Hid (∀ W : World, Below W14.heap.size W14 W → Calls Try.prog 18 #[.agg #[.slice (some ⟨p', o', none⟩) li.length b1, .slice B2 lh.length b2, .int .i64 o], .int .i64 (N : Int), .int .i64 (min t am)] W (fun e w' => ∃ G1 G2 g1 g2, e = .returned (.tuple #[.agg #[.slice G1 li.length g1, .slice G2 lh.length g2, .int .i64 o], .int .i64 0]) ∧ Row Inp.cs 2 w' (.slice G1 li.length g1) L2 ∧ Row Hld.cs 2 w' (.slice G2 lh.length g2) lh ∧ Below W14.heap.size W14 w' ∧ Below W.heap.size W w')) := Lib.hid (fun W hW => by
              have HX := mset_any _ _ _ (N : Int) (min t am) _ _ (marks_of HST.out.2.1 (fun x hx => (WFH.out x hx).1) (AI.out.below hW) (AH.out.below hW))
              rw [HST.out.2.2] at HX
              refine HX.mono ?_
              rintro e w9 ⟨v1, v2, rfl, hri, hrh, hb9⟩
              have XI := hri
              have XH := hrh
              obtain ⟨G1, g1, rfl, -⟩ := hri
              obtain ⟨G2, g2, rfl, -⟩ := hrh
              rw [HLN.out] at XI ⊢
              exact ⟨G1, G2, g1, g2, rfl, XI, XH, bThen hW hb9, hb9⟩)
            go_cut [13, 14] (fun p e W => TwRel li L2 lh o W14 p e W)
            case first =>
              go_region_law (first | (go_simp; go_at_call 18; refine (HS2.out _ (by first | exact Below.refl _ _ | exact Below.drew (Below.refl _ _) | exact bDrewN (Below.refl _ _) | exact bel_alloc (Below.refl _ _) _ | exact Below.drew (bel_alloc (Below.refl _ _) _) | exact bel_alloc (Below.drew (Below.refl _ _)) _)).mono ?_; rintro e w9 ⟨G1, G2, g1, g2, rfl, XI, XH, hb9, hb8⟩; (first | (have hz := heap_below (W := (W14.alloc (.cells #[.slice none 0 0, .slice none 0 0, .int .i64 0] 25)).drew) (show _ = _ from heap_at _ _ _ rfl) hb8; have y0 := cellsAt hz 0; have y1 := cellsAt hz 1; have y2 := cellsAt hz 2; have fy := frozAt hz; have zy := blk_lt hz; simp at y0 y1 y2) | (have hz := heap_below (W := (W14.alloc (.cells #[.slice none 0 0, .slice none 0 0, .int .i64 0] 25))) (show _ = _ from heap_at _ _ _ rfl) hb8; have y0 := cellsAt hz 0; have y1 := cellsAt hz 1; have y2 := cellsAt hz 2; have fy := frozAt hz; have zy := blk_lt hz; simp at y0 y1 y2) | (have hz := heap_below (W := (W14.drew.alloc (.cells #[.slice none 0 0, .slice none 0 0, .int .i64 0] 25))) (show _ = _ from heap_at _ _ _ rfl) hb8; have y0 := cellsAt hz 0; have y1 := cellsAt hz 1; have y2 := cellsAt hz 2; have fy := frozAt hz; have zy := blk_lt hz; simp at y0 y1 y2) | skip)))
              all_goals
                go_wp2_with fail
                go_meet
                first | (with_reducible exact tw_new XI XH hb9) | (with_reducible exact tw_old XI XH hb9 hz)
            case rest =>
              clear zs fs xs0 xs1 xs2 za fa xa0 xa1 xa2
              obtain ⟨gb, G1, G2, g1, g2, rfl, rfl, hbb, hbi, hbh, hbc⟩ := hcut
              clear k0 HS2
              have BI := Lib.hid hbi
              have BH := Lib.hid hbh
              have Blb := Lib.hid hbb
              clear hbi hbh hbb
              have Z1 := Lib.hid (heap_below Bls.out hbc)
              clear Bls
              have Bls := Z1
              clear Z1
              have Z1 := Lib.hid (heap_below Bla.out hbc)
              clear Bla
              have Bla := Z1
              clear Z1
              have Z1 := Lib.hid (AI.out.below hbc)
              clear AI
              have AI := Z1
              clear Z1
              have Z1 := Lib.hid (AH.out.below hbc)
              clear AH
              have AH := Z1
              clear Z1
              have BBc := Lib.hid (bThen BB17.out hbc)
              clear hbc
              have za := blk_lt Bla.out
              have xa0 := cellsAt Bla.out 0
              have xa1 := cellsAt Bla.out 1
              have xa2 := cellsAt Bla.out 2
              have fa := frozAt Bla.out
              simp at xa0 xa1 xa2
              have zb := blk_lt Blb.out
              have xb0 := cellsAt Blb.out 0
              have xb1 := cellsAt Blb.out 1
              have xb2 := cellsAt Blb.out 2
              have fb := frozAt Blb.out
              simp at xb0 xb1 xb2
              go_wp2_with fail
              refine (likeM_same L2 lh o _ _ _ _ _ AI.out AH.out BI.out BH.out (by rw [HLN.out]; omega) (by omega)).mono ?_
              rintro e w18 ⟨rfl, hb19⟩
              clear za fa xa0 xa1 xa2 zb fb xb0 xb1 xb2
              have Z := Lib.hid (heap_below Bls.out hb19)
              clear Bls
              have Bls := Z
              clear Z
              have Z := Lib.hid (heap_below Bla.out hb19)
              clear Bla
              have Bla := Z
              clear Z
              have Z := Lib.hid (heap_below Blb.out hb19)
              clear Blb
              have Blb := Z
              clear Z
              have BB20 := Lib.hid (bThen BBc.out hb19)
              clear hb19
              clear AI AH BI BH Bla Blb
              have zs := blk_lt Bls.out
              have xs0 := cellsAt Bls.out 0
              have xs1 := cellsAt Bls.out 1
              have xs2 := cellsAt Bls.out 2
              have fs := frozAt Bls.out
              simp at xs0 xs1 xs2
              go_wp2_with fail
              clear zs fs xs0 xs1 xs2
              go_loopw [15, 108] (fun b i wr => ThRel lh no w18 b i wr) (fun _ i _ => lh.length - (intOf i).toNat)
              case atStart => exact ⟨0, Nat.zero_le _, rfl, by simp [hasH], Below.refl _ _⟩
              case round =>
                obtain ⟨k, hk, rfl, rfl, hbj⟩ := hrel
                have BJ := Lib.hid hbj
                have Z := Lib.hid (heap_below Bls.out hbj)
                clear Bls
                have Bls := Z
                clear Z
                have BB21 := Lib.hid (bThen BB20.out hbj)
                clear hbj
                obtain ⟨hb0, hhb0⟩ : ∃ b, (decide (no < 0) || hasH (lh.take k) no) = b := ⟨_, rfl⟩
                have HHB := Lib.hid hhb0
                rw [hhb0]
                clear hhb0
                by_cases hkl : k < lh.length
                · obtain ⟨y, hy⟩ : ∃ y, lh[k]? = some y := ⟨_, List.getElem?_eq_getElem hkl⟩
                  have HY := Lib.hid hy
                  obtain ⟨p2, o2, c2', e', hc2, hp2, hX⟩ := (R2.out.below BB21.out).at_ hy
                  injection e' with e1 e2 e3
                  clear e2
                  subst e1 e3
                  have k0 := hX 0 _ rfl
                  have k1 := hX 1 _ rfl
                  clear hX hy
                  obtain ⟨y0, y1⟩ := y
                  simp only [Nat.add_zero] at k0 k1
                  have HT := Lib.hid (show hasH (lh.take (k + 1)) no = (hasH (lh.take k) no || (y0 == no)) by rw [List.take_add_one, HY.out]; exact hasH_snoc _ _ _)
                  cases hb0 with
                  | true =>
                    go_wp2_with fail
                    go_roundw
                    case rel => exact ⟨k + 1, by omega, by go_num, by rw [HT.out, ← Bool.or_assoc, HHB.out]; rfl, bel_alloc BJ.out _⟩
                    case measure => simp [intOf]; omega
                  | false =>
                    by_cases hyn : y0 = no
                    · have t1 : (y0 == no) = true := by simpa using hyn
                      have t2 : decide (y0 = no) = true := by simpa using hyn
                      clear hyn
                      go_wp2_with fail
                      go_roundw
                      case rel => exact ⟨k + 1, by omega, by go_num, by rw [HT.out, ← Bool.or_assoc, HHB.out]; rw [t1]; rfl, bel_alloc BJ.out _⟩
                      case measure => simp [intOf]; omega
                    · have t1 : (y0 == no) = false := by simpa using hyn
                      have t2 : decide (y0 = no) = false := by simpa using hyn
                      go_wp2_with fail
                      go_roundw
                      case rel => exact ⟨k + 1, by omega, by go_num, by rw [HT.out, ← Bool.or_assoc, HHB.out]; rw [t1]; rfl, bel_alloc BJ.out _⟩
                      case measure => simp [intOf]; omega
                · obtain hkn : k = lh.length := by omega
                  have hb2 := HHB.out
                  rw [hkn, List.take_length] at hb2
                  have HB2 := Lib.hid hb2
                  clear hb2 BJ
                  have zs := blk_lt Bls.out
                  have xs0 := cellsAt Bls.out 0
                  have xs1 := cellsAt Bls.out 1
                  have xs2 := cellsAt Bls.out 2
                  have fs := frozAt Bls.out
                  simp at xs0 xs1 xs2
                  go_wp2_with fail
                  have HX := hold_any _ _ _ no at_ _ _ (HM.out.below BB21.out)
                  obtain ⟨R3, hR3⟩ : ∃ R, holdM li lh o no at_ = R := ⟨_, rfl⟩
                  rw [hR3] at HX
                  have HR3 := Lib.hid hR3
                  clear hR3
                  refine HX.mono ?_
                  rintro e w22 ⟨vi, vh, rfl, hri, hrh, hb23⟩
                  have CI := Lib.hid hri
                  have CH := Lib.hid hrh
                  obtain ⟨C1, k1, rfl, -⟩ := hri
                  obtain ⟨C2, k2, rfl, -⟩ := hrh
                  clear HX
                  clear zs fs xs0 xs1 xs2
                  have Z := Lib.hid (heap_below Bls.out hb23)
                  clear Bls
                  have Bls := Z
                  clear Z
                  have BB24 := Lib.hid (bThen BB21.out hb23)
                  clear hb23
                  go_upto_region 16 with fail
                  obtain ⟨W25, hW26⟩ : ∃ X, X = (w22).alloc (.cells #[.slice C1 R3.li.length k1, .slice C2 R3.lh.length k2, .int .i64 R3.o] 25) := ⟨_, rfl⟩
                  rw [← hW26]
                  have hb27 : Below w22.heap.size w22 W25 := by rw [hW26]; exact bel_alloc (Below.refl _ _) _
                  have Nc := Lib.hid (show W25.heap[w22.heap.size]? = some (.cells #[.slice C1 R3.li.length k1, .slice C2 R3.lh.length k2, .int .i64 R3.o] 25 (0, 0)) by rw [hW26]; exact heap_at (w22) _ (w22.heap.size) (by simp))
                  clear hW26
                  have Z := Lib.hid (heap_below Bls.out hb27)
                  clear Bls
                  have Bls := Z
                  clear Z
                  have Z := Lib.hid (Row.below CI.out hb27)
                  clear CI
                  have CI := Z
                  clear Z
                  have Z := Lib.hid (Row.below CH.out hb27)
                  clear CH
                  have CH := Z
                  clear Z
                  have BB28 := Lib.hid (bThen BB24.out hb27)
                  clear hb27
                  have Blc := Nc
                  clear Nc
                  cases hb0 with
                  | true =>
                    clear Blc CI CH
                    have zs := blk_lt Bls.out
                    have xs0 := cellsAt Bls.out 0
                    have xs1 := cellsAt Bls.out 1
                    have xs2 := cellsAt Bls.out 2
                    have fs := frozAt Bls.out
                    simp at xs0 xs1 xs2
                    go_wp2_with fail
                    have HOR := out_right HQ.out
                    have HOA := out_again HQ.out
                    have HX := tell_yes _ _ _ _ _ (HM.out.below BB28.out) HQ.out (by omega) (by omega)
                    obtain ⟨T, hT⟩ : ∃ T, outM li lh o = T := ⟨_, rfl⟩
                    obtain ⟨bl, hbl⟩ : ∃ b, laterM li lh o = b := ⟨_, rfl⟩
                    rw [hT] at HX HOR HOA
                    rw [hbl] at HX
                    have RT := Lib.hid HOR.1
                    have HOA2 := Lib.hid HOA
                    clear hT hbl HOR HOA
                    refine HX.mono ?_
                    rintro e w29 ⟨vi, vh, rfl, hri, hrh, hb30⟩
                    have DI := Lib.hid hri
                    have DH := Lib.hid hrh
                    obtain ⟨D1, d1, rfl, -⟩ := hri
                    obtain ⟨D2, d2, rfl, -⟩ := hrh
                    clear HX
                    clear zs fs xs0 xs1 xs2
                    have Z := Lib.hid (heap_below Bls.out hb30)
                    clear Bls
                    have Bls := Z
                    clear Z
                    have BB31 := Lib.hid (bThen BB28.out hb30)
                    clear hb30
                    go_upto_region 21 with fail
                    obtain ⟨W32, hW33⟩ : ∃ X, X = (w29).alloc (.cells #[.slice D1 li.length d1, .slice D2 lh.length d2, .int .i64 T] 25) := ⟨_, rfl⟩
                    rw [← hW33]
                    have hb34 : Below w29.heap.size w29 W32 := by rw [hW33]; exact bel_alloc (Below.refl _ _) _
                    have Nx := Lib.hid (show W32.heap[w29.heap.size]? = some (.cells #[.slice D1 li.length d1, .slice D2 lh.length d2, .int .i64 T] 25 (0, 0)) by rw [hW33]; exact heap_at (w29) _ (w29.heap.size) (by simp))
                    clear hW33
                    have Z := Lib.hid (heap_below Bls.out hb34)
                    clear Bls
                    have Bls := Z
                    clear Z
                    have Z := Lib.hid (Row.below DI.out hb34)
                    clear DI
                    have DI := Z
                    clear Z
                    have Z := Lib.hid (Row.below DH.out hb34)
                    clear DH
                    have DH := Z
                    clear Z
                    have BB35 := Lib.hid (bThen BB31.out hb34)
                    clear hb34
                    have Blx := Nx
                    clear Nx
                    have zx := blk_lt Blx.out
                    have xx0 := cellsAt Blx.out 0
                    have xx1 := cellsAt Blx.out 1
                    have xx2 := cellsAt Blx.out 2
                    have fx := frozAt Blx.out
                    simp at xx0 xx1 xx2
                    go_wp2_with fail
                    have HX := tell_yes _ _ _ _ _ (marks_of RT.out (fun x hx => (WFH.out x hx).1) DI.out DH.out) RT.out (by omega) (by omega)
                    rw [HOA2.out.1, HOA2.out.2] at HX
                    refine HX.mono ?_
                    rintro e w36 ⟨vi, vh, rfl, hri, hrh, hb37⟩
                    have EI := Lib.hid hri
                    have EH := Lib.hid hrh
                    obtain ⟨E1, f1, rfl, -⟩ := hri
                    obtain ⟨E2, f2, rfl, -⟩ := hrh
                    clear HX
                    clear zx fx xx0 xx1 xx2
                    have Z := Lib.hid (heap_below Bls.out hb37)
                    clear Bls
                    have Bls := Z
                    clear Z
                    have Z := Lib.hid (heap_below Blx.out hb37)
                    clear Blx
                    have Blx := Z
                    clear Z
                    have Z := Lib.hid (Row.below DI.out hb37)
                    clear DI
                    have DI := Z
                    clear Z
                    have Z := Lib.hid (Row.below DH.out hb37)
                    clear DH
                    have DH := Z
                    clear Z
                    have BB38 := Lib.hid (bThen BB35.out hb37)
                    clear hb37
                    go_upto_region 22 with fail
                    obtain ⟨W39, hW40⟩ : ∃ X, X = (w36).alloc (.cells #[.slice E1 li.length f1, .slice E2 lh.length f2, .int .i64 T] 25) := ⟨_, rfl⟩
                    rw [← hW40]
                    have hb41 : Below w36.heap.size w36 W39 := by rw [hW40]; exact bel_alloc (Below.refl _ _) _
                    have Ny := Lib.hid (show W39.heap[w36.heap.size]? = some (.cells #[.slice E1 li.length f1, .slice E2 lh.length f2, .int .i64 T] 25 (0, 0)) by rw [hW40]; exact heap_at (w36) _ (w36.heap.size) (by simp))
                    clear hW40
                    have Z := Lib.hid (heap_below Bls.out hb41)
                    clear Bls
                    have Bls := Z
                    clear Z
                    have Z := Lib.hid (heap_below Blx.out hb41)
                    clear Blx
                    have Blx := Z
                    clear Z
                    have Z := Lib.hid (Row.below DI.out hb41)
                    clear DI
                    have DI := Z
                    clear Z
                    have Z := Lib.hid (Row.below DH.out hb41)
                    clear DH
                    have DH := Z
                    clear Z
                    have Z := Lib.hid (Row.below EI.out hb41)
                    clear EI
                    have EI := Z
                    clear Z
                    have Z := Lib.hid (Row.below EH.out hb41)
                    clear EH
                    have EH := Z
                    clear Z
                    have BB42 := Lib.hid (bThen BB38.out hb41)
                    clear hb41
                    have Bly := Ny
                    clear Ny
                    have zx := blk_lt Blx.out
                    have xx0 := cellsAt Blx.out 0
                    have xx1 := cellsAt Blx.out 1
                    have xx2 := cellsAt Blx.out 2
                    have fx := frozAt Blx.out
                    simp at xx0 xx1 xx2
                    have zy := blk_lt Bly.out
                    have xy0 := cellsAt Bly.out 0
                    have xy1 := cellsAt Bly.out 1
                    have xy2 := cellsAt Bly.out 2
                    have fy := frozAt Bly.out
                    simp at xy0 xy1 xy2
                    have c7 : (T == T) = true := by simp
                    have c8 : decide (T = T) = true := by simp
                    go_wp2_with fail
                    refine (likeM_same li lh T _ _ _ _ _ DI.out DH.out EI.out EH.out (by omega) (by omega)).mono ?_
                    rintro e w43 ⟨rfl, hb44⟩
                    clear zx fx xx0 xx1 xx2 zy fy xy0 xy1 xy2
                    have Z := Lib.hid (heap_below Bls.out hb44)
                    clear Bls
                    have Bls := Z
                    clear Z
                    have Z := Lib.hid (heap_below Blx.out hb44)
                    clear Blx
                    have Blx := Z
                    clear Z
                    have Z := Lib.hid (heap_below Bly.out hb44)
                    clear Bly
                    have Bly := Z
                    clear Z
                    have Z := Lib.hid (Row.below DI.out hb44)
                    clear DI
                    have DI := Z
                    clear Z
                    have Z := Lib.hid (Row.below DH.out hb44)
                    clear DH
                    have DH := Z
                    clear Z
                    have Z := Lib.hid (Row.below EI.out hb44)
                    clear EI
                    have EI := Z
                    clear Z
                    have Z := Lib.hid (Row.below EH.out hb44)
                    clear EH
                    have EH := Z
                    clear Z
                    have BB45 := Lib.hid (bThen BB42.out hb44)
                    clear hb44
                    go_wp2_with fail
                    go_ret
                    exact ⟨rfl, BB45.out⟩
                  | false =>
                    have hb3 := HB2.out
                    simp only [Bool.or_eq_false_iff] at hb3
                    have hn0 : 0 ≤ no := by have := hb3.1; simp at this; exact this
                    have HHS := Lib.hid hb3.2
                    clear hb3
                    by_cases hpl : (putH lh no at_).length ≤ 32
                    · have hR3 := HR3.out
                      unfold holdM at hR3
                      rw [if_pos (by rw [HQ.out]; simp; exact hn0), if_pos hpl] at hR3
                      subst hR3
                      have HRP := Lib.hid (right_put HQ.out hn0 at_ hpl)
                      have HRE := Lib.hid (rem_put (srt_of (right_holds HQ.out).1) HHS.out at_)
                      simp only at CI CH Blc
                      have zc := blk_lt Blc.out
                      have xc0 := cellsAt Blc.out 0
                      have xc1 := cellsAt Blc.out 1
                      have xc2 := cellsAt Blc.out 2
                      have fc := frozAt Blc.out
                      simp at xc0 xc1 xc2
                      go_wp2_with fail
                      have WFP : ∀ x ∈ putH lh no at_, wfL x.no := by intro x hx; unfold putH at hx; rcases List.mem_append.1 hx with hx | hx; exact (WFH.out x (List.mem_filter.1 hx).1).1; rcases List.mem_cons.1 hx with hx | hx; (rw [hx]; exact HNO.out); exact (WFH.out x (List.mem_filter.1 hx).1).1
                      have HX := free_any _ _ _ no _ _ (marks_of HRP.out WFP CI.out CH.out)
                      have hfr : freeM li (putH lh no at_) o no = ⟨li, lh, o, 0⟩ := by unfold freeM; rw [if_pos (by rw [HRP.out, HRE.out.2]; rfl), HRE.out.1]
                      rw [hfr] at HX
                      clear WFP hfr
                      refine HX.mono ?_
                      rintro e w29 ⟨vi, vh, rfl, hri, hrh, hb30⟩
                      have FI := Lib.hid hri
                      have FH := Lib.hid hrh
                      obtain ⟨F1, f1, rfl, -⟩ := hri
                      obtain ⟨F2, f2, rfl, -⟩ := hrh
                      clear HX
                      clear zc fc xc0 xc1 xc2
                      have Z := Lib.hid (heap_below Bls.out hb30)
                      clear Bls
                      have Bls := Z
                      clear Z
                      have Z := Lib.hid (heap_below Blc.out hb30)
                      clear Blc
                      have Blc := Z
                      clear Z
                      have Z := Lib.hid (Row.below CI.out hb30)
                      clear CI
                      have CI := Z
                      clear Z
                      have Z := Lib.hid (Row.below CH.out hb30)
                      clear CH
                      have CH := Z
                      clear Z
                      have BB31 := Lib.hid (bThen BB28.out hb30)
                      clear hb30
                      go_upto_region 18 with fail
                      obtain ⟨W32, hW33⟩ : ∃ X, X = (w29).alloc (.cells #[.slice F1 li.length f1, .slice F2 lh.length f2, .int .i64 o] 25) := ⟨_, rfl⟩
                      rw [← hW33]
                      have hb34 : Below w29.heap.size w29 W32 := by rw [hW33]; exact bel_alloc (Below.refl _ _) _
                      have Nd := Lib.hid (show W32.heap[w29.heap.size]? = some (.cells #[.slice F1 li.length f1, .slice F2 lh.length f2, .int .i64 o] 25 (0, 0)) by rw [hW33]; exact heap_at (w29) _ (w29.heap.size) (by simp))
                      clear hW33
                      have Z := Lib.hid (heap_below Bls.out hb34)
                      clear Bls
                      have Bls := Z
                      clear Z
                      have Z := Lib.hid (heap_below Blc.out hb34)
                      clear Blc
                      have Blc := Z
                      clear Z
                      have Z := Lib.hid (Row.below CI.out hb34)
                      clear CI
                      have CI := Z
                      clear Z
                      have Z := Lib.hid (Row.below CH.out hb34)
                      clear CH
                      have CH := Z
                      clear Z
                      have Z := Lib.hid (Row.below FI.out hb34)
                      clear FI
                      have FI := Z
                      clear Z
                      have Z := Lib.hid (Row.below FH.out hb34)
                      clear FH
                      have FH := Z
                      clear Z
                      have BB35 := Lib.hid (bThen BB31.out hb34)
                      clear hb34
                      have Bld := Nd
                      clear Nd
                      have zs := blk_lt Bls.out
                      have xs0 := cellsAt Bls.out 0
                      have xs1 := cellsAt Bls.out 1
                      have xs2 := cellsAt Bls.out 2
                      have fs := frozAt Bls.out
                      simp at xs0 xs1 xs2
                      have zd := blk_lt Bld.out
                      have xd0 := cellsAt Bld.out 0
                      have xd1 := cellsAt Bld.out 1
                      have xd2 := cellsAt Bld.out 2
                      have fd := frozAt Bld.out
                      simp at xd0 xd1 xd2
                      go_wp2_with fail
                      refine (likeM_same li lh o _ _ _ _ _ FI.out FH.out (R1.out.below BB35.out) (R2.out.below BB35.out) (by omega) (by omega)).mono ?_
                      rintro e w36 ⟨rfl, hb37⟩
                      clear zs fs xs0 xs1 xs2 zd fd xd0 xd1 xd2
                      have Z := Lib.hid (heap_below Bls.out hb37)
                      clear Bls
                      have Bls := Z
                      clear Z
                      have Z := Lib.hid (heap_below Blc.out hb37)
                      clear Blc
                      have Blc := Z
                      clear Z
                      have Z := Lib.hid (heap_below Bld.out hb37)
                      clear Bld
                      have Bld := Z
                      clear Z
                      have Z := Lib.hid (Row.below CI.out hb37)
                      clear CI
                      have CI := Z
                      clear Z
                      have Z := Lib.hid (Row.below CH.out hb37)
                      clear CH
                      have CH := Z
                      clear Z
                      have Z := Lib.hid (Row.below FI.out hb37)
                      clear FI
                      have FI := Z
                      clear Z
                      have Z := Lib.hid (Row.below FH.out hb37)
                      clear FH
                      have FH := Z
                      clear Z
                      have BB38 := Lib.hid (bThen BB35.out hb37)
                      clear hb37
                      clear Blc Bld CI CH FI FH
                      have zs := blk_lt Bls.out
                      have xs0 := cellsAt Bls.out 0
                      have xs1 := cellsAt Bls.out 1
                      have xs2 := cellsAt Bls.out 2
                      have fs := frozAt Bls.out
                      simp at xs0 xs1 xs2
                      go_wp2_with fail
                      have HOR := out_right HQ.out
                      have HOA := out_again HQ.out
                      have HX := tell_yes _ _ _ _ _ (HM.out.below BB38.out) HQ.out (by omega) (by omega)
                      obtain ⟨T, hT⟩ : ∃ T, outM li lh o = T := ⟨_, rfl⟩
                      obtain ⟨bl, hbl⟩ : ∃ b, laterM li lh o = b := ⟨_, rfl⟩
                      rw [hT] at HX HOR HOA
                      rw [hbl] at HX
                      have RT := Lib.hid HOR.1
                      have HOA2 := Lib.hid HOA
                      clear hT hbl HOR HOA
                      refine HX.mono ?_
                      rintro e w39 ⟨vi, vh, rfl, hri, hrh, hb40⟩
                      have DI := Lib.hid hri
                      have DH := Lib.hid hrh
                      obtain ⟨D1, d1, rfl, -⟩ := hri
                      obtain ⟨D2, d2, rfl, -⟩ := hrh
                      clear HX
                      clear zs fs xs0 xs1 xs2
                      have Z := Lib.hid (heap_below Bls.out hb40)
                      clear Bls
                      have Bls := Z
                      clear Z
                      have BB41 := Lib.hid (bThen BB38.out hb40)
                      clear hb40
                      go_upto_region 21 with fail
                      obtain ⟨W42, hW43⟩ : ∃ X, X = (w39).alloc (.cells #[.slice D1 li.length d1, .slice D2 lh.length d2, .int .i64 T] 25) := ⟨_, rfl⟩
                      rw [← hW43]
                      have hb44 : Below w39.heap.size w39 W42 := by rw [hW43]; exact bel_alloc (Below.refl _ _) _
                      have Nx := Lib.hid (show W42.heap[w39.heap.size]? = some (.cells #[.slice D1 li.length d1, .slice D2 lh.length d2, .int .i64 T] 25 (0, 0)) by rw [hW43]; exact heap_at (w39) _ (w39.heap.size) (by simp))
                      clear hW43
                      have Z := Lib.hid (heap_below Bls.out hb44)
                      clear Bls
                      have Bls := Z
                      clear Z
                      have Z := Lib.hid (Row.below DI.out hb44)
                      clear DI
                      have DI := Z
                      clear Z
                      have Z := Lib.hid (Row.below DH.out hb44)
                      clear DH
                      have DH := Z
                      clear Z
                      have BB45 := Lib.hid (bThen BB41.out hb44)
                      clear hb44
                      have Blx := Nx
                      clear Nx
                      have zx := blk_lt Blx.out
                      have xx0 := cellsAt Blx.out 0
                      have xx1 := cellsAt Blx.out 1
                      have xx2 := cellsAt Blx.out 2
                      have fx := frozAt Blx.out
                      simp at xx0 xx1 xx2
                      go_wp2_with fail
                      have HX := tell_yes _ _ _ _ _ (marks_of RT.out (fun x hx => (WFH.out x hx).1) DI.out DH.out) RT.out (by omega) (by omega)
                      rw [HOA2.out.1, HOA2.out.2] at HX
                      refine HX.mono ?_
                      rintro e w46 ⟨vi, vh, rfl, hri, hrh, hb47⟩
                      have EI := Lib.hid hri
                      have EH := Lib.hid hrh
                      obtain ⟨E1, f1, rfl, -⟩ := hri
                      obtain ⟨E2, f2, rfl, -⟩ := hrh
                      clear HX
                      clear zx fx xx0 xx1 xx2
                      have Z := Lib.hid (heap_below Bls.out hb47)
                      clear Bls
                      have Bls := Z
                      clear Z
                      have Z := Lib.hid (heap_below Blx.out hb47)
                      clear Blx
                      have Blx := Z
                      clear Z
                      have Z := Lib.hid (Row.below DI.out hb47)
                      clear DI
                      have DI := Z
                      clear Z
                      have Z := Lib.hid (Row.below DH.out hb47)
                      clear DH
                      have DH := Z
                      clear Z
                      have BB48 := Lib.hid (bThen BB45.out hb47)
                      clear hb47
                      go_upto_region 22 with fail
                      obtain ⟨W49, hW50⟩ : ∃ X, X = (w46).alloc (.cells #[.slice E1 li.length f1, .slice E2 lh.length f2, .int .i64 T] 25) := ⟨_, rfl⟩
                      rw [← hW50]
                      have hb51 : Below w46.heap.size w46 W49 := by rw [hW50]; exact bel_alloc (Below.refl _ _) _
                      have Ny := Lib.hid (show W49.heap[w46.heap.size]? = some (.cells #[.slice E1 li.length f1, .slice E2 lh.length f2, .int .i64 T] 25 (0, 0)) by rw [hW50]; exact heap_at (w46) _ (w46.heap.size) (by simp))
                      clear hW50
                      have Z := Lib.hid (heap_below Bls.out hb51)
                      clear Bls
                      have Bls := Z
                      clear Z
                      have Z := Lib.hid (heap_below Blx.out hb51)
                      clear Blx
                      have Blx := Z
                      clear Z
                      have Z := Lib.hid (Row.below DI.out hb51)
                      clear DI
                      have DI := Z
                      clear Z
                      have Z := Lib.hid (Row.below DH.out hb51)
                      clear DH
                      have DH := Z
                      clear Z
                      have Z := Lib.hid (Row.below EI.out hb51)
                      clear EI
                      have EI := Z
                      clear Z
                      have Z := Lib.hid (Row.below EH.out hb51)
                      clear EH
                      have EH := Z
                      clear Z
                      have BB52 := Lib.hid (bThen BB48.out hb51)
                      clear hb51
                      have Bly := Ny
                      clear Ny
                      have zx := blk_lt Blx.out
                      have xx0 := cellsAt Blx.out 0
                      have xx1 := cellsAt Blx.out 1
                      have xx2 := cellsAt Blx.out 2
                      have fx := frozAt Blx.out
                      simp at xx0 xx1 xx2
                      have zy := blk_lt Bly.out
                      have xy0 := cellsAt Bly.out 0
                      have xy1 := cellsAt Bly.out 1
                      have xy2 := cellsAt Bly.out 2
                      have fy := frozAt Bly.out
                      simp at xy0 xy1 xy2
                      have c7 : (T == T) = true := by simp
                      have c8 : decide (T = T) = true := by simp
                      go_wp2_with fail
                      refine (likeM_same li lh T _ _ _ _ _ DI.out DH.out EI.out EH.out (by omega) (by omega)).mono ?_
                      rintro e w53 ⟨rfl, hb54⟩
                      clear zx fx xx0 xx1 xx2 zy fy xy0 xy1 xy2
                      have Z := Lib.hid (heap_below Bls.out hb54)
                      clear Bls
                      have Bls := Z
                      clear Z
                      have Z := Lib.hid (heap_below Blx.out hb54)
                      clear Blx
                      have Blx := Z
                      clear Z
                      have Z := Lib.hid (heap_below Bly.out hb54)
                      clear Bly
                      have Bly := Z
                      clear Z
                      have Z := Lib.hid (Row.below DI.out hb54)
                      clear DI
                      have DI := Z
                      clear Z
                      have Z := Lib.hid (Row.below DH.out hb54)
                      clear DH
                      have DH := Z
                      clear Z
                      have Z := Lib.hid (Row.below EI.out hb54)
                      clear EI
                      have EI := Z
                      clear Z
                      have Z := Lib.hid (Row.below EH.out hb54)
                      clear EH
                      have EH := Z
                      clear Z
                      have BB55 := Lib.hid (bThen BB52.out hb54)
                      clear hb54
                      go_wp2_with fail
                      go_ret
                      exact ⟨rfl, BB55.out⟩
                    · have hR3 := HR3.out
                      unfold holdM at hR3
                      rw [if_pos (by rw [HQ.out]; simp; exact hn0), if_neg hpl] at hR3
                      subst hR3
                      unfold mkZ
                      clear Blc CI CH
                      have zs := blk_lt Bls.out
                      have xs0 := cellsAt Bls.out 0
                      have xs1 := cellsAt Bls.out 1
                      have xs2 := cellsAt Bls.out 2
                      have fs := frozAt Bls.out
                      simp at xs0 xs1 xs2
                      go_wp2_with fail
                      have HOR := out_right HQ.out
                      have HOA := out_again HQ.out
                      have HX := tell_yes _ _ _ _ _ (HM.out.below BB28.out) HQ.out (by omega) (by omega)
                      obtain ⟨T, hT⟩ : ∃ T, outM li lh o = T := ⟨_, rfl⟩
                      obtain ⟨bl, hbl⟩ : ∃ b, laterM li lh o = b := ⟨_, rfl⟩
                      rw [hT] at HX HOR HOA
                      rw [hbl] at HX
                      have RT := Lib.hid HOR.1
                      have HOA2 := Lib.hid HOA
                      clear hT hbl HOR HOA
                      refine HX.mono ?_
                      rintro e w29 ⟨vi, vh, rfl, hri, hrh, hb30⟩
                      have DI := Lib.hid hri
                      have DH := Lib.hid hrh
                      obtain ⟨D1, d1, rfl, -⟩ := hri
                      obtain ⟨D2, d2, rfl, -⟩ := hrh
                      clear HX
                      clear zs fs xs0 xs1 xs2
                      have Z := Lib.hid (heap_below Bls.out hb30)
                      clear Bls
                      have Bls := Z
                      clear Z
                      have BB31 := Lib.hid (bThen BB28.out hb30)
                      clear hb30
                      go_upto_region 21 with fail
                      obtain ⟨W32, hW33⟩ : ∃ X, X = (w29).alloc (.cells #[.slice D1 li.length d1, .slice D2 lh.length d2, .int .i64 T] 25) := ⟨_, rfl⟩
                      rw [← hW33]
                      have hb34 : Below w29.heap.size w29 W32 := by rw [hW33]; exact bel_alloc (Below.refl _ _) _
                      have Nx := Lib.hid (show W32.heap[w29.heap.size]? = some (.cells #[.slice D1 li.length d1, .slice D2 lh.length d2, .int .i64 T] 25 (0, 0)) by rw [hW33]; exact heap_at (w29) _ (w29.heap.size) (by simp))
                      clear hW33
                      have Z := Lib.hid (heap_below Bls.out hb34)
                      clear Bls
                      have Bls := Z
                      clear Z
                      have Z := Lib.hid (Row.below DI.out hb34)
                      clear DI
                      have DI := Z
                      clear Z
                      have Z := Lib.hid (Row.below DH.out hb34)
                      clear DH
                      have DH := Z
                      clear Z
                      have BB35 := Lib.hid (bThen BB31.out hb34)
                      clear hb34
                      have Blx := Nx
                      clear Nx
                      have zx := blk_lt Blx.out
                      have xx0 := cellsAt Blx.out 0
                      have xx1 := cellsAt Blx.out 1
                      have xx2 := cellsAt Blx.out 2
                      have fx := frozAt Blx.out
                      simp at xx0 xx1 xx2
                      go_wp2_with fail
                      have HX := tell_yes _ _ _ _ _ (marks_of RT.out (fun x hx => (WFH.out x hx).1) DI.out DH.out) RT.out (by omega) (by omega)
                      rw [HOA2.out.1, HOA2.out.2] at HX
                      refine HX.mono ?_
                      rintro e w36 ⟨vi, vh, rfl, hri, hrh, hb37⟩
                      have EI := Lib.hid hri
                      have EH := Lib.hid hrh
                      obtain ⟨E1, f1, rfl, -⟩ := hri
                      obtain ⟨E2, f2, rfl, -⟩ := hrh
                      clear HX
                      clear zx fx xx0 xx1 xx2
                      have Z := Lib.hid (heap_below Bls.out hb37)
                      clear Bls
                      have Bls := Z
                      clear Z
                      have Z := Lib.hid (heap_below Blx.out hb37)
                      clear Blx
                      have Blx := Z
                      clear Z
                      have Z := Lib.hid (Row.below DI.out hb37)
                      clear DI
                      have DI := Z
                      clear Z
                      have Z := Lib.hid (Row.below DH.out hb37)
                      clear DH
                      have DH := Z
                      clear Z
                      have BB38 := Lib.hid (bThen BB35.out hb37)
                      clear hb37
                      go_upto_region 22 with fail
                      obtain ⟨W39, hW40⟩ : ∃ X, X = (w36).alloc (.cells #[.slice E1 li.length f1, .slice E2 lh.length f2, .int .i64 T] 25) := ⟨_, rfl⟩
                      rw [← hW40]
                      have hb41 : Below w36.heap.size w36 W39 := by rw [hW40]; exact bel_alloc (Below.refl _ _) _
                      have Ny := Lib.hid (show W39.heap[w36.heap.size]? = some (.cells #[.slice E1 li.length f1, .slice E2 lh.length f2, .int .i64 T] 25 (0, 0)) by rw [hW40]; exact heap_at (w36) _ (w36.heap.size) (by simp))
                      clear hW40
                      have Z := Lib.hid (heap_below Bls.out hb41)
                      clear Bls
                      have Bls := Z
                      clear Z
                      have Z := Lib.hid (heap_below Blx.out hb41)
                      clear Blx
                      have Blx := Z
                      clear Z
                      have Z := Lib.hid (Row.below DI.out hb41)
                      clear DI
                      have DI := Z
                      clear Z
                      have Z := Lib.hid (Row.below DH.out hb41)
                      clear DH
                      have DH := Z
                      clear Z
                      have Z := Lib.hid (Row.below EI.out hb41)
                      clear EI
                      have EI := Z
                      clear Z
                      have Z := Lib.hid (Row.below EH.out hb41)
                      clear EH
                      have EH := Z
                      clear Z
                      have BB42 := Lib.hid (bThen BB38.out hb41)
                      clear hb41
                      have Bly := Ny
                      clear Ny
                      have zx := blk_lt Blx.out
                      have xx0 := cellsAt Blx.out 0
                      have xx1 := cellsAt Blx.out 1
                      have xx2 := cellsAt Blx.out 2
                      have fx := frozAt Blx.out
                      simp at xx0 xx1 xx2
                      have zy := blk_lt Bly.out
                      have xy0 := cellsAt Bly.out 0
                      have xy1 := cellsAt Bly.out 1
                      have xy2 := cellsAt Bly.out 2
                      have fy := frozAt Bly.out
                      simp at xy0 xy1 xy2
                      have c7 : (T == T) = true := by simp
                      have c8 : decide (T = T) = true := by simp
                      go_wp2_with fail
                      refine (likeM_same li lh T _ _ _ _ _ DI.out DH.out EI.out EH.out (by omega) (by omega)).mono ?_
                      rintro e w43 ⟨rfl, hb44⟩
                      clear zx fx xx0 xx1 xx2 zy fy xy0 xy1 xy2
                      have Z := Lib.hid (heap_below Bls.out hb44)
                      clear Bls
                      have Bls := Z
                      clear Z
                      have Z := Lib.hid (heap_below Blx.out hb44)
                      clear Blx
                      have Blx := Z
                      clear Z
                      have Z := Lib.hid (heap_below Bly.out hb44)
                      clear Bly
                      have Bly := Z
                      clear Z
                      have Z := Lib.hid (Row.below DI.out hb44)
                      clear DI
                      have DI := Z
                      clear Z
                      have Z := Lib.hid (Row.below DH.out hb44)
                      clear DH
                      have DH := Z
                      clear Z
                      have Z := Lib.hid (Row.below EI.out hb44)
                      clear EI
                      have EI := Z
                      clear Z
                      have Z := Lib.hid (Row.below EH.out hb44)
                      clear EH
                      have EH := Z
                      clear Z
                      have BB45 := Lib.hid (bThen BB42.out hb44)
                      clear hb44
                      go_wp2_with fail
                      go_ret
                      exact ⟨rfl, BB45.out⟩
end Go.Proofs.Ytdanfeldbdooeaa
