/-
  WALKS of the law AlignCuts: the law itself.
-/
import Derived.Test.YtenpgkkefielfaaCutC2
import Derived.Test.YtenpgkkefielfaaCutW1
import Derived.Test.YtenpgkkefielfaaCutW2
import Derived.Test.YtenpgkkefielfaaCutB
import Derived.Test.YtenpgkkefielfaaCutG
import Derived.Test.YtenpgkkefielfaaCutR
import Derived.Deep.RegionLaw
import Derived.StillTailTactics
set_option linter.unusedVariables false
set_option linter.unusedSimpArgs false
namespace Go.Proofs.Ytenpgkkefielfaa
open Go.RowKit

theorem CSt.start {B n : Nat} {R : Nat → List It} {E : Nat → Nat → Nat} (h1 : 1 ≤ n) (h8 : n ≤ 8) (hB : B ≤ 2) (hr : ∀ j, j < n → CutRow B (R j) (E j)) : CSt B n R E 0 (fun _ => 0) (newA' n) (fun _ => []) := by
  refine ⟨h1, h8, Nat.zero_le _, hB, hr, fun j hj => Nat.le_refl _, fun j hj => Nat.zero_le _, ?_, by simp [newA'], by simp [newA'], fun j hj => ?_, fun j hj => ⟨hZ, by simp [newA', hj], ?_⟩, ⟨0, h1, Nat.zero_le _⟩, fun j hj => (segP_start (r := R j) (e := E j) (c := 0)).symm⟩
  · rw [if_neg]
    · rfl
    · rintro ⟨j, hj, h⟩
      omega
  · rw [decide_eq_false (by omega)]
    simp [newA', hj]
  · rw [hldP_nil (by omega)]
    rfl
theorem info_lli : (Try.prog.info? 22).map (fun i => (i.zero, i.size, i.bytes)) = some (some (.slice none 0 0), 1, 24) := by kernel_rfl
/-- While the rows are built. -/
def LwIn (B N bs bP bW : Nat) (w2 : World) (m : Nat) (vr : Value) (wr : World) : Prop :=
  ∃ (R : Nat → List It) (E : Nat → Nat → Nat) (rs : List Hl) (ws : List Wn) (vp vw : Value), m ≤ N ∧ BRows B m R E rs ws ∧ BSt bs wr vr vp vw rs m ws ∧ wr.heap[bP]? = some (.cells #[vp] 22 (0, 0)) ∧ wr.heap[bW]? = some (.cells #[vw] 31 (0, 0)) ∧ Below bP w2 wr
def LwRel (B N bs bP bW : Nat) (w2 : World) (vr vi : Value) (wr : World) : Prop := ∃ i : Nat, vi = .int .i64 i ∧ LwIn B N bs bP bW w2 i vr wr
theorem wrap_cut {c : Nat} (h : c ≤ 100) : wrap64 ((c : Int) + 1 - 1) = (c : Int) ∧ wrap64 (c : Int) = (c : Int) ∧ IntKind.i64.wrap (c : Int) = (c : Int) :=
  ⟨by unfold wrap64; omega, by unfold wrap64; omega, by rw [IntKind.wrap_i64]; omega⟩
/-- So many rows are counted. -/
def LfRel (F : CFix) (wS : World) (vl vi : Value) (wq : World) : Prop := ∃ j : Nat, j ≤ F.n ∧ vl = .int .i64 (sumN (fun q => (F.R q).length) j : Nat) ∧ vi = .int .i64 j ∧ wq = wS
/-- The last loop: nothing turns. -/
def FlRel (F : CFix) (wS : World) (vi : Value) (wq : World) : Prop := ∃ j : Nat, vi = .int .i64 j ∧ j ≤ F.n ∧ Below wS.heap.size wS wq
/-- The law's loop. -/
def MlRel (F : CFix) (T cr : Nat) (w : World) (vl vi : Value) (wq : World) : Prop :=
  ∃ (i L c : Nat) (pos : Nat → Nat) (va : Value) (a : Aln) (P : Nat → List It) (hs rs : List Hl), vl = .int .i64 (L : Nat) ∧ vi = .int .i64 (i : Nat) ∧ L = sumN (fun j => (F.R j).length - pos j) F.n ∧ i ≤ T + 14 * F.n ∧ TmOk T F.n i (fun j => (F.R j).length - pos j) ∧
    CMem F wq c va a hs ∧ CSt F.B F.n F.R F.E c pos a P ∧ HsP F.n hs P ∧ RstAt F wq cr rs pos ∧ Below w.heap.size w wq
set_option maxRecDepth 100000 in
set_option maxHeartbeats 4000000 in
theorem cuts_none (bar : Int) (tl : List Int) (c : Nat) (A : Option Addr) (u : Value) (w : World) :
    Calls Try.prog 3 #[.slice A 0 c, .int .i64 bar, u] w fun e w' => e = .returned (.bool true) ∧ Below w.heap.size w w' := by
  have HN := Lib.hid (fun W => anew_all 1 W)
  unfold NwTo at HN
  rw [nwA_one.1] at HN
  go_enter Try.func3, Try.ntmps3
  go_wp2_with fail
  refine (HN.out _).mono ?_
  rintro e w1 ⟨⟨v, rfl, ha⟩, hb⟩
  obtain ⟨Ag, cg, Ah, ch, rfl, -⟩ := al_form ha
  rw [nwA_one.2]
  go_wp2_with fail
  refine (aalive_any _).mono ?_
  rintro e w2 ⟨rfl, hb2⟩
  go_wp2_with fail
  refine (aalive_any _).mono ?_
  rintro e w3 ⟨rfl, hb3⟩
  go_wp2_with fail
  go_ret
  exact ⟨rfl, bThen (bThen (bel_alloc hb _) hb2) hb3⟩
set_option maxRecDepth 100000 in
set_option maxHeartbeats 4000000 in
theorem cuts_walk (bar : Int) (inp : List Hl) (tl : List Int) (v u : Value) (w : World) (hv : Row Hl.cs 1 w v inp ∧ (∀ a ∈ inp, a.At w) ∧ inp.length ≤ maxLen) (hu : Row iCs 1 w u tl ∧ (∀ a ∈ tl, wfL a) ∧ tl.length ≤ 17592186044416) :
    Calls Try.prog 3 #[v, .int .i64 bar, u] w fun e w' => e = .returned (.bool true) ∧ Below w.heap.size w w' := by
  obtain ⟨hv, hat, hml⟩ := hv
  obtain ⟨hu, hut, htl⟩ := hu
  have HV := Lib.hid hv
  have HU := Lib.hid hu
  have HAT := Lib.hid hat
  have HUT := Lib.hid hut
  obtain ⟨A, c, rfl, hc, -⟩ := hv
  obtain ⟨A2, c2, rfl, hc2, -⟩ := hu
  obtain ⟨m, hm⟩ : ∃ m, inp.length = m := ⟨_, rfl⟩
  obtain ⟨T, hT⟩ : ∃ m, tl.length = m := ⟨_, rfl⟩
  have HM := Lib.hid hm
  have HT := Lib.hid hT
  rw [hm] at HV hml hc ⊢
  rw [hT] at HU htl hc2 ⊢
  unfold maxLen at hml
  clear hm hT hat hut hc2
  by_cases h0 : m = 0
  · subst h0
    exact cuts_none bar tl c A _ w
  obtain ⟨N, hN⟩ : ∃ N : Nat, min (m : Int) 8 = (N : Int) := ⟨min m 8, by omega⟩
  obtain ⟨B, hB⟩ : ∃ B : Nat, min (max bar 0) 2 = (B : Int) := ⟨(min (max bar 0) 2).toNat, by omega⟩
  have hB2 : B ≤ 2 := by omega
  have hN1 : 1 ≤ N := by omega
  have hN8 : N ≤ 8 := by omega
  have hNm : N ≤ m := by omega
  have hNc : N ≤ c := by omega
  have hx1 : max (N : Int) 1 = (N : Int) := by omega
  have hn0 : ((N : Int) == 0) = false := beq_eq_false_iff_ne.2 (by omega)
  clear h0
  have HNW := Lib.hid (fun W => anew_yes (N : Int) N rfl W (by omega) (by omega))
  unfold AnTo at HNW
  go_enter Try.func3, Try.ntmps3
  go_wp2_with fail
  refine (HNW.out _).mono ?_
  rintro e w1 ⟨⟨va, rfl, hal⟩, hb⟩
  obtain ⟨Ag, cg, Ah, ch, rfl, -⟩ := al_form hal
  have HAL := Lib.hid hal
  have HB1 := Lib.hid hb
  have hl1 : (newA' N).got.length = N := by simp [newA']
  have hl2 : (newA' N).held.length = N := by simp [newA']
  rw [show (newA' N).n = 0 from rfl, hl1, hl2] at HAL ⊢
  clear hal hb hl1 hl2
  go_upto_region 3 with fail
  obtain ⟨Wa, hWa⟩ : ∃ X, X = w1.alloc (.cells #[.int .i64 0, .slice Ag N cg, .slice Ah N ch] 26) := ⟨_, rfl⟩
  rw [← hWa]
  have NA := Lib.hid (show Wa.heap[w1.heap.size]? = some (.cells #[.int .i64 0, .slice Ag N cg, .slice Ah N ch] 26 (0, 0)) by rw [hWa]; exact heap_at _ _ _ rfl)
  have BA := Lib.hid (show Below w1.heap.size w1 Wa by rw [hWa]; exact bel_alloc (Below.refl _ _) _)
  have hsa : Wa.heap.size = w1.heap.size + 1 := by rw [hWa]; simp
  clear hWa
  go_wp2_with fail
  refine (aalive_any _).mono ?_
  rintro e wb ⟨rfl, hbb⟩
  have BB := Lib.hid hbb
  have hsb := hbb.size
  clear hbb
  go_wp2_with fail
  obtain ⟨W2, hW2⟩ : ∃ X, X = (wb.alloc (.cells #[.slice none 0 0] 22)).alloc (.cells #[.slice none 0 0] 31) := ⟨_, rfl⟩
  rw [← hW2]
  have NP := Lib.hid (show W2.heap[wb.heap.size]? = some (.cells #[.slice none 0 0] 22 (0, 0)) by rw [hW2]; exact (heap_alloc_old _ _ (by simp)).trans (heap_at _ _ _ rfl))
  have NW := Lib.hid (show W2.heap[wb.heap.size + 1]? = some (.cells #[.slice none 0 0] 31 (0, 0)) by rw [hW2]; exact heap_at _ _ _ (by simp))
  have B2 := Lib.hid (show Below wb.heap.size wb W2 by rw [hW2]; exact bel_alloc (bel_alloc (Below.refl _ _) _) _)
  have hs2 : W2.heap.size = wb.heap.size + 2 := by rw [hW2]; simp
  have HBW := Lib.hid (bThen (bThen (bThen HB1.out BA.out) BB.out) B2.out)
  have hsw := HB1.out.size
  obtain ⟨iL, hiL, hzL0, hzL1, hzL2⟩ := info_parts info_li
  have LI := Lib.hid hiL
  have LZ0 := Lib.hid hzL0
  have LZ1 := Lib.hid hzL1
  have LZ2 := Lib.hid hzL2
  obtain ⟨iK, hiK, hzK0, hzK1, hzK2⟩ := info_parts info_lli
  have KI := Lib.hid hiK
  have KZ0 := Lib.hid hzK0
  have KZ1 := Lib.hid hzK1
  have KZ2 := Lib.hid hzK2
  clear hW2 hiL hzL0 hzL1 hzL2 hiK hzK0 hzK1 hzK2
  go_loopw [10, 57] (fun vr vi wr => LwRel B N (wb.heap.size + 2) wb.heap.size (wb.heap.size + 1) W2 vr vi wr) (fun _ vi _ => N - (intOf vi).toNat)
  case atStart => exact ⟨0, rfl, fun _ => [], fun _ _ => 0, [], [], .slice none 0 0, .slice none 0 0, Nat.zero_le _, BRows.nil B, BSt.nil (by omega), NP.out, NW.out, Below.refl _ _⟩
  case round =>
    obtain ⟨i, rfl, R, E, rs, ws, vp, vw, hiN, hrw, hst, hbp, hbw, hbl⟩ := hrel
    have HRW := Lib.hid hrw
    have HST := Lib.hid hst
    have HBP := Lib.hid hbp
    have HBV := Lib.hid hbw
    have HBL := Lib.hid hbl
    obtain ⟨Ar, cr, rfl⟩ := own_slice hst.rows
    obtain ⟨Ap, cp, rfl⟩ := own_slice hst.pas
    obtain ⟨Aw, cw, rfl⟩ := own_slice hst.wan
    have hrl := hrw.rl
    have hwl := hrw.wl
    rw [hrl] at HST ⊢
    rw [hwl] at HST HBV
    have HRL := Lib.hid hrl
    have HWL := Lib.hid hwl
    clear hrw hst hbp hbw hbl hrl hwl
    by_cases hlt : i < N
    · obtain ⟨x, hx⟩ : ∃ x, inp[i]? = some x := ⟨_, List.getElem?_eq_getElem (by rw [HM.out]; omega)⟩
      have hbwr : Below w.heap.size w wr := HBW.out.trans (HBL.out.mono (by omega))
      have hrow := HV.out.below hbwr
      obtain ⟨b, o, c', hv', -, hb, hX⟩ := hrow.at_ hx
      rw [HM.out] at hv'
      injection hv' with e1 e2 e3
      subst e1 e3
      have r0 := hX 0 _ rfl
      simp only [Nat.mul_one, Nat.add_zero] at r0
      have HXA := Lib.hid ((HAT.out x (List.mem_of_getElem? hx)).below hbwr)
      unfold Hl.At at HXA
      obtain ⟨xr, xl⟩ := x
      simp only at r0 HXA
      obtain ⟨Ax, cx, rfl⟩ : ∃ Ax cx, xr = .slice Ax xl.length cx := by obtain ⟨⟨A0, c0, h0, -⟩, -⟩ := HXA.out; exact ⟨A0, c0, h0⟩
      obtain ⟨nx, hnx⟩ : ∃ z, xl.length = z := ⟨_, rfl⟩
      rw [hnx] at r0 HXA
      have hiN2 : (i : Int) < (N : Int) := by omega
      clear hX hrow hx e2 hbwr hnx hb
      go_wp2_with fail
      refine (crow_any xl _ B _ HXA.out hB2).mono ?_
      rintro e w3 ⟨vo, r, es, rfl, hown, hcr, hb3⟩
      have HCR := Lib.hid hcr
      have HB3 := Lib.hid hb3
      obtain ⟨Ao, co, rfl⟩ := own_slice hown
      have hsz3 := hb3.size
      have hle := HST.out.le
      have HOW := Lib.hid (own_base hown hle)
      have HS3 := Lib.hid (HST.out.below hb3)
      have HP3 := Lib.hid (heap_below HBP.out hb3)
      have HV3 := Lib.hid (heap_below HBV.out hb3)
      have HBL3 := Lib.hid (HBL.out.trans (hb3.mono (by omega)))
      obtain ⟨nr, hnr⟩ : ∃ z, r.length = z := ⟨_, rfl⟩
      rw [hnr] at HOW ⊢
      have HNR := Lib.hid hnr
      have SX3 := Lib.hid (show BxS wb.heap.size (.slice Ap i cp) (.slice Aw i cw) W2 w3 from ⟨HP3.out, HV3.out, HBL3.out, HS3.out.le⟩)
      clear hown hcr hb3 r0 HXA HST HBP HBV HBL HP3 HV3 HBL3 hnr
      go_wp2_with fail
      refine wp_region_G (BxS wb.heap.size (.slice Ap i cp) (.slice Aw i cw) W2) (fun j => decide (13 ≤ j)) (by kernel_rfl) ?_
      obtain ⟨wd, hwd⟩ : ∃ X, X = w3.drew := ⟨_, rfl⟩
      rw [← hwd]
      have SX0 := Lib.hid (show BxS wb.heap.size (.slice Ap i cp) (.slice Aw i cw) W2 wd by rw [hwd]; exact SX3.out.keep (Below.drew (Below.refl _ _)))
      have ST0 := Lib.hid (show BSt (wb.heap.size + 2) wd (.slice Ar i cr) (.slice Ap i cp) (.slice Aw i cw) rs i ws by rw [hwd]; exact HS3.out.below (Below.drew (Below.refl _ _)))
      have RO0 := Lib.hid (show wd.ownsRow (wb.heap.size + 2) 43 11 (.slice Ao nr co) nr (r.flatMap It.cs) by rw [hwd]; exact own_below HOW.out (Below.drew (Below.refl _ _)))
      have HZ := Lib.hid (show w3.heap.size = wd.heap.size by rw [hwd]; rfl)
      have HVB := Lib.hid (show ∀ k, (Value.slice Ar i cr).ownBlock = some k → k < wd.heap.size from fun k e => (ST0.out.rows.lt k e).2)
      clear hwd HS3 HOW SX3
      change wpAnyG _ _ _ _ _ _ 15 (Array.replicate 15 false) _ _
      refine wpAnyG_take (i := 0) (v := .slice Ar i cr) rfl (by kernel_rfl) (by kernel_rfl) (by kernel_rfl) (by kernel_rfl) (by kernel_rfl) (fun _ _ _ h => h) (by rfl) (fun wq hSw => by go_simp) SX0.out ?_
      try simp only [Act.put, List.setIfInBounds_toArray, List.set_cons_zero, List.set_cons_succ]
      refine wpAnyG_take (i := 1) (v := .slice Ao nr co) rfl (by kernel_rfl) (by kernel_rfl) (by kernel_rfl) (by kernel_rfl) (by kernel_rfl) (fun _ _ _ h => h) (by rfl) (fun wq hSw => by go_simp) SX0.out ?_
      try simp only [Act.put, List.setIfInBounds_toArray, List.set_cons_zero, List.set_cons_succ]
      refine wpAnyG_take (i := 4) (v := .slice Ap i cp) rfl (by kernel_rfl) (by kernel_rfl) (by kernel_rfl) (by kernel_rfl) (by kernel_rfl) (fun _ _ _ h => h) (by rfl) (fun wq hSw => by have hq : wq.cell? ⟨wb.heap.size, 0, none⟩ = some (.slice Ap i cp) := cellsAt hSw.p 0; go_simp) SX0.out ?_
      try simp only [Act.put, List.setIfInBounds_toArray, List.set_cons_zero, List.set_cons_succ]
      refine wpAnyG_take (i := 7) (v := .slice Aw i cw) rfl (by kernel_rfl) (by kernel_rfl) (by kernel_rfl) (by kernel_rfl) (by kernel_rfl) (fun _ _ _ h => h) (by rfl) (fun wq hSw => by have hq : wq.cell? ⟨wb.heap.size + 1, 0, none⟩ = some (.slice Aw i cw) := cellsAt hSw.v 0; go_simp) SX0.out ?_
      try simp only [Act.put, List.setIfInBounds_toArray, List.set_cons_zero, List.set_cons_succ]
      refine wpAnyG_take (i := 8) (v := .slice Ao nr co) rfl (by kernel_rfl) (by kernel_rfl) (by kernel_rfl) (by kernel_rfl) (by kernel_rfl) (fun _ _ _ h => h) (by rfl) (fun wq hSw => by go_simp) SX0.out ?_
      try simp only [Act.put, List.setIfInBounds_toArray, List.set_cons_zero, List.set_cons_succ]
      refine wpAnyG_two (i := 2) (j := 5) (by kernel_rfl) rfl rfl (by rfl) (by rfl) (fun K hK => ?_) (fun K hK => ?_)
      · -- the first row is laid first
        go_simp
        refine hK _ _ (SX0.out.keep ((Below.refl _ _).alloc SX0.out.size _)) ?_
        try simp only [Act.put, List.setIfInBounds_toArray, List.set_cons_zero, List.set_cons_succ]
        clear hK K
        obtain ⟨wz1, hw⟩ : ∃ X, X = wd.alloc (.cells #[.slice Ao nr co] 32) := ⟨_, rfl⟩
        rw [← hw]
        have hb : Below wd.heap.size wd wz1 := by rw [hw]; exact bel_alloc (Below.refl _ _) _
        have hs4 := hb.size
        have SX3 := Lib.hid (SX0.out.keep (hb.mono SX0.out.size))
        have ST2 := Lib.hid (ST0.out.below hb)
        have NE5 := Lib.hid (show wz1.heap[wd.heap.size]? = some (.cells #[.slice Ao nr co] 32 (0, 0)) by rw [hw]; exact heap_at _ _ _ rfl)
        have RO6 := Lib.hid (own_below RO0.out hb)
        clear hw hb ST0 SX0 RO0
        refine wpAnyG_two (i := 3) (j := 5) (by kernel_rfl) rfl rfl (by rfl) (by rfl) (fun K hK => ?_) (fun K hK => ?_)
        · -- and appended
          refine wp_append_at _ _ 22 rfl (wb.heap.size + 2) 32 iL _ 1 24 Try.underlying22 LI.out LZ0.out LZ1.out LZ2.out rfl (by decide) (.slice Ar i cr) i _ rfl (by have h := ST2.out.rows; rw [HRL.out] at h; exact h) _ 1 1 [.slice Ao nr co] rfl rfl (news1 NE5.out) (by intro u hu; simp at hu; subst hu; rfl) (by unfold maxLen; omega) (by omega) ST2.out.le ?_
          intro v5 wz7 hown5 hgrow5 hloc5
          obtain ⟨A5, c5, rfl⟩ := own_slice hown5
          have hlt5 : ∀ k, (Value.slice Ar i cr).ownBlock = some k → wb.heap.size + 2 ≤ k ∧ k < wz1.heap.size := fun k e => ST2.out.rows.lt k e
          have SX9 := Lib.hid (SX3.out.keep ((Below.refl _ _).grown hgrow5 SX3.out.size (fun k e => (hlt5 k e).1)))
          refine hK _ _ SX9.out ?_
          try simp only [Act.put, List.setIfInBounds_toArray, List.set_cons_zero, List.set_cons_succ]
          clear hK K
          have ST8 := Lib.hid (ST2.out.pushR (x := ⟨.slice Ao nr co, r⟩) (by show World.ownsRow _ _ _ 11 (.slice Ao nr co) r.length (r.flatMap It.cs); rw [HNR.out]; exact RO6.out) (by rw [HRL.out]; exact hown5) hgrow5 hloc5)
          clear hlt5 hown5 hgrow5 hloc5 ST2 SX3 NE5 RO6
          refine wpAnyG_one (i := 5) (by kernel_rfl) rfl (by rfl) (fun K hK => ?_)
          go_simp
          refine hK _ _ (SX9.out.keep ((Below.refl _ _).alloc SX9.out.size _)) ?_
          try simp only [Act.put, List.setIfInBounds_toArray, List.set_cons_zero, List.set_cons_succ]
          clear hK K
          obtain ⟨wz10, hw⟩ : ∃ X, X = wz7.alloc (.cells #[.slice none 0 0] 32) := ⟨_, rfl⟩
          rw [← hw]
          have hb : Below wz7.heap.size wz7 wz10 := by rw [hw]; exact bel_alloc (Below.refl _ _) _
          have hs13 := hb.size
          have SX12 := Lib.hid (SX9.out.keep (hb.mono SX9.out.size))
          have ST11 := Lib.hid (ST8.out.below hb)
          have NE14 := Lib.hid (show wz10.heap[wz7.heap.size]? = some (.cells #[.slice none 0 0] 32 (0, 0)) by rw [hw]; exact heap_at _ _ _ rfl)
          clear hw hb ST8 SX9
          refine wpAnyG_one (i := 6) (by kernel_rfl) rfl (by rfl) (fun K hK => ?_)
          refine wp_append_at _ _ 22 rfl (wb.heap.size + 2) 32 iL _ 1 24 Try.underlying22 LI.out LZ0.out LZ1.out LZ2.out rfl (by decide) (.slice Ap i cp) i _ rfl (ST11.out.pas) _ 1 1 [.slice none 0 0] rfl rfl (news1 NE14.out) (by intro u hu; simp at hu; subst hu; rfl) (by unfold maxLen; omega) (by omega) ST11.out.le ?_
          intro v5 wz15 hown5 hgrow5 hloc5
          obtain ⟨A6, c6, rfl⟩ := own_slice hown5
          have hlt5 : ∀ k, (Value.slice Ap i cp).ownBlock = some k → wb.heap.size + 2 ≤ k ∧ k < wz10.heap.size := fun k e => ST11.out.pas.lt k e
          have SX17 := Lib.hid (SX12.out.keep ((Below.refl _ _).grown hgrow5 SX12.out.size (fun k e => (hlt5 k e).1)))
          refine hK _ _ SX17.out ?_
          try simp only [Act.put, List.setIfInBounds_toArray, List.set_cons_zero, List.set_cons_succ]
          clear hK K
          have ST16 := Lib.hid (ST11.out.pushP hown5 hgrow5 hloc5)
          clear hlt5 hown5 hgrow5 hloc5 ST11 SX12 NE14
          refine wpAnyG_one (i := 9) (by kernel_rfl) rfl (by rfl) (fun K hK => ?_)
          go_simp
          refine (ccuts_any B r es _ _ (Row.of_own It.cs_len (ST16.out.rit ⟨.slice Ao nr co, r⟩ (by simp)) rfl) HCR.out).mono ?_
          rintro e wz18 ⟨vo7, hs7, rfl, hrr7, hl7, hd7, hb7⟩
          obtain ⟨A7, c7, rfl⟩ := own_slice hrr7.own
          have SX20 := Lib.hid (SX17.out.keep (hb7.mono SX17.out.size))
          refine hK _ _ SX20.out ?_
          try simp only [Act.put, List.setIfInBounds_toArray, List.set_cons_zero, List.set_cons_succ]
          clear hK K
          have ST19 := Lib.hid (ST16.out.below hb7)
          have RR21 := Lib.hid (hrr7.base ST16.out.le)
          have HSEP := Lib.hid (show ∀ k, (Value.slice A7 hs7.length c7).ownBlock = some k → (Value.slice A5 (i + 1) c5).ownBlock ≠ some k ∧ (Value.slice A6 (i + 1) c6).ownBlock ≠ some k from fun k hk => ⟨fun e => by have h1 := (hrr7.own.lt k hk).1; have h2 := (ST16.out.rows.lt k e).2; omega, fun e => by have h1 := (hrr7.own.lt k hk).1; have h2 := (ST16.out.pas.lt k e).2; omega⟩)
          have HL7 := Lib.hid hl7
          have HD7 := Lib.hid hd7
          clear hrr7 hb7 hl7 hd7 ST16 SX17
          refine wpAnyG_one (i := 10) (by kernel_rfl) rfl (by rfl) (fun K hK => ?_)
          go_simp
          refine hK _ _ (SX20.out.keep ((Below.refl _ _).alloc SX20.out.size _)) ?_
          try simp only [Act.put, List.setIfInBounds_toArray, List.set_cons_zero, List.set_cons_succ]
          clear hK K
          obtain ⟨wz22, hw⟩ : ∃ X, X = wz18.alloc (.cells #[.slice A7 hs7.length c7] 22) := ⟨_, rfl⟩
          rw [← hw]
          have hb : Below wz18.heap.size wz18 wz22 := by rw [hw]; exact bel_alloc (Below.refl _ _) _
          have hs25 := hb.size
          have SX24 := Lib.hid (SX20.out.keep (hb.mono SX20.out.size))
          have ST23 := Lib.hid (ST19.out.below hb)
          have NE26 := Lib.hid (show wz22.heap[wz18.heap.size]? = some (.cells #[.slice A7 hs7.length c7] 22 (0, 0)) by rw [hw]; exact heap_at _ _ _ rfl)
          have RR27 := Lib.hid (RR21.out.below hb)
          clear hw hb ST19 SX20 RR21
          refine wpAnyG_one (i := 11) (by kernel_rfl) rfl (by rfl) (fun K hK => ?_)
          refine wp_append_at _ _ 31 rfl (wb.heap.size + 2) 22 iK _ 1 24 Try.underlying31 KI.out KZ0.out KZ1.out KZ2.out rfl (by decide) (.slice Aw i cw) i _ rfl (by have h := ST23.out.wan; rw [HWL.out] at h; exact h) _ 1 1 [.slice A7 hs7.length c7] rfl rfl (news1 NE26.out) (by intro u hu; simp at hu; subst hu; rfl) (by unfold maxLen; omega) (by omega) ST23.out.le ?_
          intro v5 wz28 hown5 hgrow5 hloc5
          obtain ⟨A8, c8, rfl⟩ := own_slice hown5
          have hlt5 : ∀ k, (Value.slice Aw i cw).ownBlock = some k → wb.heap.size + 2 ≤ k ∧ k < wz22.heap.size := fun k e => ST23.out.wan.lt k e
          have SX30 := Lib.hid (SX24.out.keep ((Below.refl _ _).grown hgrow5 SX24.out.size (fun k e => (hlt5 k e).1)))
          refine hK _ _ SX30.out ?_
          try simp only [Act.put, List.setIfInBounds_toArray, List.set_cons_zero, List.set_cons_succ]
          clear hK K
          have ST29 := Lib.hid (ST23.out.pushW (x := ⟨.slice A7 hs7.length c7, hs7⟩) RR27.out HSEP.out (by rw [HWL.out]; exact hown5) hgrow5)
          clear hlt5 hown5 hgrow5 hloc5 ST23 SX24 NE26 RR27
          refine wpAnyG_one (i := 12) (by kernel_rfl) rfl (by rfl) (fun K hK => ?_)
          go_simp
          refine hK _ _ SX30.out ?_
          try simp only [Act.put, List.setIfInBounds_toArray, List.set_cons_zero, List.set_cons_succ]
          clear hK K
          have xP : wz28.cell? ⟨wb.heap.size, 0, none⟩ = some (.slice Ap i cp) := cellsAt SX30.out.p 0
          have fP := frozAt SX30.out.p
          have zP := blk_lt SX30.out.p
          refine wpAnyG_late (i := 13) (by kernel_rfl) rfl (by rfl) (by rfl) (fun K hK => ?_)
          go_simp
          refine hK _ _ ?_
          try simp only [Act.put, List.setIfInBounds_toArray, List.set_cons_zero, List.set_cons_succ]
          clear hK K
          obtain ⟨wz31, hw⟩ : ∃ X, X = wz28.setCell ⟨wb.heap.size, 0, none⟩ (.slice A6 (i + 1) c6) := ⟨_, rfl⟩
          rw [← hw]
          have h1 : wz31.heap[wb.heap.size]? = some (.cells #[.slice A6 (i + 1) c6] 22 (0, 0)) := by rw [hw]; exact set1 SX30.out.p _
          have k1 : ∀ k, k ≠ wb.heap.size → wz31.heap[k]? = wz28.heap[k]? := fun k hk => by rw [hw]; exact Below.heap_setCell _ ⟨wb.heap.size, 0, none⟩ _ k hk
          have s1 : wz31.heap.size = wz28.heap.size := by rw [hw]; simp [World.setCell]
          have b1 : Below wb.heap.size W2 wz31 := by rw [hw]; exact SX30.out.below.setCell (p := ⟨wb.heap.size, 0, none⟩) (Nat.le_refl _) _
          have hv1 := (k1 (wb.heap.size + 1) (by omega)).trans SX30.out.v
          have T1 := Lib.hid (ST29.out.keepHi (fun k hk => k1 k (by omega)) s1)
          clear hw k1 s1 xP fP zP ST29 SX30
          have H1 := Lib.hid h1
          have HV1 := Lib.hid hv1
          have HB1b := Lib.hid b1
          have xP : wz31.cell? ⟨wb.heap.size + 1, 0, none⟩ = some (.slice Aw i cw) := cellsAt hv1 0
          have fP := frozAt hv1
          have zP := blk_lt hv1
          clear h1 hv1 b1
          refine wpAnyG_late (i := 14) (by kernel_rfl) rfl (by rfl) (by rfl) (fun K hK => ?_)
          go_simp
          refine hK _ _ ?_
          try simp only [Act.put, List.setIfInBounds_toArray, List.set_cons_zero, List.set_cons_succ]
          clear hK K
          refine wpAnyG_done (by kernel_rfl) ?_ _
          go_wp2_with fail
          go_roundw
          case rel => exact ⟨i + 1, by go_num, _, _, _, _, .slice A6 (i + 1) c6, .slice A8 (i + 1) c8, by omega, HRW.out.push HCR.out (.slice Ao nr co) (.slice A7 hs7.length c7) HL7.out HD7.out, T1.out.keepHi (fun k hk => Below.heap_setCell _ ⟨wb.heap.size + 1, 0, none⟩ _ k (by show k ≠ wb.heap.size + 1; omega)) (by simp [World.setCell]), (Below.heap_setCell _ ⟨wb.heap.size + 1, 0, none⟩ _ _ (by show wb.heap.size ≠ wb.heap.size + 1; omega)).trans H1.out, set1 HV1.out _, HB1b.out.setCell (p := ⟨wb.heap.size + 1, 0, none⟩) (by show wb.heap.size ≤ wb.heap.size + 1; omega) _⟩
          case measure => simp [intOf]; omega
        · -- the second is laid
          go_simp
          refine hK _ _ (SX3.out.keep ((Below.refl _ _).alloc SX3.out.size _)) ?_
          try simp only [Act.put, List.setIfInBounds_toArray, List.set_cons_zero, List.set_cons_succ]
          clear hK K
          obtain ⟨wz32, hw⟩ : ∃ X, X = wz1.alloc (.cells #[.slice none 0 0] 32) := ⟨_, rfl⟩
          rw [← hw]
          have hb : Below wz1.heap.size wz1 wz32 := by rw [hw]; exact bel_alloc (Below.refl _ _) _
          have hs35 := hb.size
          have SX34 := Lib.hid (SX3.out.keep (hb.mono SX3.out.size))
          have ST33 := Lib.hid (ST2.out.below hb)
          have NE36 := Lib.hid (show wz32.heap[wz1.heap.size]? = some (.cells #[.slice none 0 0] 32 (0, 0)) by rw [hw]; exact heap_at _ _ _ rfl)
          have NE37 := Lib.hid (heap_below NE5.out hb)
          have RO38 := Lib.hid (own_below RO6.out hb)
          clear hw hb ST2 SX3 NE5 RO6
          refine wpAnyG_one (i := 3) (by kernel_rfl) rfl (by rfl) (fun K hK => ?_)
          refine wp_append_at _ _ 22 rfl (wb.heap.size + 2) 32 iL _ 1 24 Try.underlying22 LI.out LZ0.out LZ1.out LZ2.out rfl (by decide) (.slice Ar i cr) i _ rfl (by have h := ST33.out.rows; rw [HRL.out] at h; exact h) _ 1 1 [.slice Ao nr co] rfl rfl (news1 NE37.out) (by intro u hu; simp at hu; subst hu; rfl) (by unfold maxLen; omega) (by omega) ST33.out.le ?_
          intro v5 wz39 hown5 hgrow5 hloc5
          obtain ⟨A5, c5, rfl⟩ := own_slice hown5
          have hlt5 : ∀ k, (Value.slice Ar i cr).ownBlock = some k → wb.heap.size + 2 ≤ k ∧ k < wz32.heap.size := fun k e => ST33.out.rows.lt k e
          have SX41 := Lib.hid (SX34.out.keep ((Below.refl _ _).grown hgrow5 SX34.out.size (fun k e => (hlt5 k e).1)))
          refine hK _ _ SX41.out ?_
          try simp only [Act.put, List.setIfInBounds_toArray, List.set_cons_zero, List.set_cons_succ]
          clear hK K
          have ST40 := Lib.hid (ST33.out.pushR (x := ⟨.slice Ao nr co, r⟩) (by show World.ownsRow _ _ _ 11 (.slice Ao nr co) r.length (r.flatMap It.cs); rw [HNR.out]; exact RO38.out) (by rw [HRL.out]; exact hown5) hgrow5 hloc5)
          have NE42 := Lib.hid ((hgrow5.block _ (blk_lt NE36.out) (fun e => by have h1 := hlt5 _ e.symm; have h2 := HVB.out _ e.symm; have h3 := HZ.out; omega)).trans NE36.out)
          clear hlt5 hown5 hgrow5 hloc5 ST33 SX34 NE37 NE36 RO38
          refine wpAnyG_one (i := 6) (by kernel_rfl) rfl (by rfl) (fun K hK => ?_)
          refine wp_append_at _ _ 22 rfl (wb.heap.size + 2) 32 iL _ 1 24 Try.underlying22 LI.out LZ0.out LZ1.out LZ2.out rfl (by decide) (.slice Ap i cp) i _ rfl (ST40.out.pas) _ 1 1 [.slice none 0 0] rfl rfl (news1 NE42.out) (by intro u hu; simp at hu; subst hu; rfl) (by unfold maxLen; omega) (by omega) ST40.out.le ?_
          intro v5 wz43 hown5 hgrow5 hloc5
          obtain ⟨A6, c6, rfl⟩ := own_slice hown5
          have hlt5 : ∀ k, (Value.slice Ap i cp).ownBlock = some k → wb.heap.size + 2 ≤ k ∧ k < wz39.heap.size := fun k e => ST40.out.pas.lt k e
          have SX45 := Lib.hid (SX41.out.keep ((Below.refl _ _).grown hgrow5 SX41.out.size (fun k e => (hlt5 k e).1)))
          refine hK _ _ SX45.out ?_
          try simp only [Act.put, List.setIfInBounds_toArray, List.set_cons_zero, List.set_cons_succ]
          clear hK K
          have ST44 := Lib.hid (ST40.out.pushP hown5 hgrow5 hloc5)
          clear hlt5 hown5 hgrow5 hloc5 ST40 SX41 NE42
          refine wpAnyG_one (i := 9) (by kernel_rfl) rfl (by rfl) (fun K hK => ?_)
          go_simp
          refine (ccuts_any B r es _ _ (Row.of_own It.cs_len (ST44.out.rit ⟨.slice Ao nr co, r⟩ (by simp)) rfl) HCR.out).mono ?_
          rintro e wz46 ⟨vo7, hs7, rfl, hrr7, hl7, hd7, hb7⟩
          obtain ⟨A7, c7, rfl⟩ := own_slice hrr7.own
          have SX48 := Lib.hid (SX45.out.keep (hb7.mono SX45.out.size))
          refine hK _ _ SX48.out ?_
          try simp only [Act.put, List.setIfInBounds_toArray, List.set_cons_zero, List.set_cons_succ]
          clear hK K
          have ST47 := Lib.hid (ST44.out.below hb7)
          have RR49 := Lib.hid (hrr7.base ST44.out.le)
          have HSEP := Lib.hid (show ∀ k, (Value.slice A7 hs7.length c7).ownBlock = some k → (Value.slice A5 (i + 1) c5).ownBlock ≠ some k ∧ (Value.slice A6 (i + 1) c6).ownBlock ≠ some k from fun k hk => ⟨fun e => by have h1 := (hrr7.own.lt k hk).1; have h2 := (ST44.out.rows.lt k e).2; omega, fun e => by have h1 := (hrr7.own.lt k hk).1; have h2 := (ST44.out.pas.lt k e).2; omega⟩)
          have HL7 := Lib.hid hl7
          have HD7 := Lib.hid hd7
          clear hrr7 hb7 hl7 hd7 ST44 SX45
          refine wpAnyG_one (i := 10) (by kernel_rfl) rfl (by rfl) (fun K hK => ?_)
          go_simp
          refine hK _ _ (SX48.out.keep ((Below.refl _ _).alloc SX48.out.size _)) ?_
          try simp only [Act.put, List.setIfInBounds_toArray, List.set_cons_zero, List.set_cons_succ]
          clear hK K
          obtain ⟨wz50, hw⟩ : ∃ X, X = wz46.alloc (.cells #[.slice A7 hs7.length c7] 22) := ⟨_, rfl⟩
          rw [← hw]
          have hb : Below wz46.heap.size wz46 wz50 := by rw [hw]; exact bel_alloc (Below.refl _ _) _
          have hs53 := hb.size
          have SX52 := Lib.hid (SX48.out.keep (hb.mono SX48.out.size))
          have ST51 := Lib.hid (ST47.out.below hb)
          have NE54 := Lib.hid (show wz50.heap[wz46.heap.size]? = some (.cells #[.slice A7 hs7.length c7] 22 (0, 0)) by rw [hw]; exact heap_at _ _ _ rfl)
          have RR55 := Lib.hid (RR49.out.below hb)
          clear hw hb ST47 SX48 RR49
          refine wpAnyG_one (i := 11) (by kernel_rfl) rfl (by rfl) (fun K hK => ?_)
          refine wp_append_at _ _ 31 rfl (wb.heap.size + 2) 22 iK _ 1 24 Try.underlying31 KI.out KZ0.out KZ1.out KZ2.out rfl (by decide) (.slice Aw i cw) i _ rfl (by have h := ST51.out.wan; rw [HWL.out] at h; exact h) _ 1 1 [.slice A7 hs7.length c7] rfl rfl (news1 NE54.out) (by intro u hu; simp at hu; subst hu; rfl) (by unfold maxLen; omega) (by omega) ST51.out.le ?_
          intro v5 wz56 hown5 hgrow5 hloc5
          obtain ⟨A8, c8, rfl⟩ := own_slice hown5
          have hlt5 : ∀ k, (Value.slice Aw i cw).ownBlock = some k → wb.heap.size + 2 ≤ k ∧ k < wz50.heap.size := fun k e => ST51.out.wan.lt k e
          have SX58 := Lib.hid (SX52.out.keep ((Below.refl _ _).grown hgrow5 SX52.out.size (fun k e => (hlt5 k e).1)))
          refine hK _ _ SX58.out ?_
          try simp only [Act.put, List.setIfInBounds_toArray, List.set_cons_zero, List.set_cons_succ]
          clear hK K
          have ST57 := Lib.hid (ST51.out.pushW (x := ⟨.slice A7 hs7.length c7, hs7⟩) RR55.out HSEP.out (by rw [HWL.out]; exact hown5) hgrow5)
          clear hlt5 hown5 hgrow5 hloc5 ST51 SX52 NE54 RR55
          refine wpAnyG_one (i := 12) (by kernel_rfl) rfl (by rfl) (fun K hK => ?_)
          go_simp
          refine hK _ _ SX58.out ?_
          try simp only [Act.put, List.setIfInBounds_toArray, List.set_cons_zero, List.set_cons_succ]
          clear hK K
          have xP : wz56.cell? ⟨wb.heap.size, 0, none⟩ = some (.slice Ap i cp) := cellsAt SX58.out.p 0
          have fP := frozAt SX58.out.p
          have zP := blk_lt SX58.out.p
          refine wpAnyG_late (i := 13) (by kernel_rfl) rfl (by rfl) (by rfl) (fun K hK => ?_)
          go_simp
          refine hK _ _ ?_
          try simp only [Act.put, List.setIfInBounds_toArray, List.set_cons_zero, List.set_cons_succ]
          clear hK K
          obtain ⟨wz59, hw⟩ : ∃ X, X = wz56.setCell ⟨wb.heap.size, 0, none⟩ (.slice A6 (i + 1) c6) := ⟨_, rfl⟩
          rw [← hw]
          have h1 : wz59.heap[wb.heap.size]? = some (.cells #[.slice A6 (i + 1) c6] 22 (0, 0)) := by rw [hw]; exact set1 SX58.out.p _
          have k1 : ∀ k, k ≠ wb.heap.size → wz59.heap[k]? = wz56.heap[k]? := fun k hk => by rw [hw]; exact Below.heap_setCell _ ⟨wb.heap.size, 0, none⟩ _ k hk
          have s1 : wz59.heap.size = wz56.heap.size := by rw [hw]; simp [World.setCell]
          have b1 : Below wb.heap.size W2 wz59 := by rw [hw]; exact SX58.out.below.setCell (p := ⟨wb.heap.size, 0, none⟩) (Nat.le_refl _) _
          have hv1 := (k1 (wb.heap.size + 1) (by omega)).trans SX58.out.v
          have T1 := Lib.hid (ST57.out.keepHi (fun k hk => k1 k (by omega)) s1)
          clear hw k1 s1 xP fP zP ST57 SX58
          have H1 := Lib.hid h1
          have HV1 := Lib.hid hv1
          have HB1b := Lib.hid b1
          have xP : wz59.cell? ⟨wb.heap.size + 1, 0, none⟩ = some (.slice Aw i cw) := cellsAt hv1 0
          have fP := frozAt hv1
          have zP := blk_lt hv1
          clear h1 hv1 b1
          refine wpAnyG_late (i := 14) (by kernel_rfl) rfl (by rfl) (by rfl) (fun K hK => ?_)
          go_simp
          refine hK _ _ ?_
          try simp only [Act.put, List.setIfInBounds_toArray, List.set_cons_zero, List.set_cons_succ]
          clear hK K
          refine wpAnyG_done (by kernel_rfl) ?_ _
          go_wp2_with fail
          go_roundw
          case rel => exact ⟨i + 1, by go_num, _, _, _, _, .slice A6 (i + 1) c6, .slice A8 (i + 1) c8, by omega, HRW.out.push HCR.out (.slice Ao nr co) (.slice A7 hs7.length c7) HL7.out HD7.out, T1.out.keepHi (fun k hk => Below.heap_setCell _ ⟨wb.heap.size + 1, 0, none⟩ _ k (by show k ≠ wb.heap.size + 1; omega)) (by simp [World.setCell]), (Below.heap_setCell _ ⟨wb.heap.size + 1, 0, none⟩ _ _ (by show wb.heap.size ≠ wb.heap.size + 1; omega)).trans H1.out, set1 HV1.out _, HB1b.out.setCell (p := ⟨wb.heap.size + 1, 0, none⟩) (by show wb.heap.size ≤ wb.heap.size + 1; omega) _⟩
          case measure => simp [intOf]; omega
      · -- the second row is laid first
        go_simp
        refine hK _ _ (SX0.out.keep ((Below.refl _ _).alloc SX0.out.size _)) ?_
        try simp only [Act.put, List.setIfInBounds_toArray, List.set_cons_zero, List.set_cons_succ]
        clear hK K
        obtain ⟨wz60, hw⟩ : ∃ X, X = wd.alloc (.cells #[.slice none 0 0] 32) := ⟨_, rfl⟩
        rw [← hw]
        have hb : Below wd.heap.size wd wz60 := by rw [hw]; exact bel_alloc (Below.refl _ _) _
        have hs63 := hb.size
        have SX62 := Lib.hid (SX0.out.keep (hb.mono SX0.out.size))
        have ST61 := Lib.hid (ST0.out.below hb)
        have NE64 := Lib.hid (show wz60.heap[wd.heap.size]? = some (.cells #[.slice none 0 0] 32 (0, 0)) by rw [hw]; exact heap_at _ _ _ rfl)
        have RO65 := Lib.hid (own_below RO0.out hb)
        clear hw hb ST0 SX0 RO0
        refine wpAnyG_one (i := 2) (by kernel_rfl) rfl (by rfl) (fun K hK => ?_)
        go_simp
        refine hK _ _ (SX62.out.keep ((Below.refl _ _).alloc SX62.out.size _)) ?_
        try simp only [Act.put, List.setIfInBounds_toArray, List.set_cons_zero, List.set_cons_succ]
        clear hK K
        obtain ⟨wz66, hw⟩ : ∃ X, X = wz60.alloc (.cells #[.slice Ao nr co] 32) := ⟨_, rfl⟩
        rw [← hw]
        have hb : Below wz60.heap.size wz60 wz66 := by rw [hw]; exact bel_alloc (Below.refl _ _) _
        have hs69 := hb.size
        have SX68 := Lib.hid (SX62.out.keep (hb.mono SX62.out.size))
        have ST67 := Lib.hid (ST61.out.below hb)
        have NE70 := Lib.hid (show wz66.heap[wz60.heap.size]? = some (.cells #[.slice Ao nr co] 32 (0, 0)) by rw [hw]; exact heap_at _ _ _ rfl)
        have NE71 := Lib.hid (heap_below NE64.out hb)
        have RO72 := Lib.hid (own_below RO65.out hb)
        clear hw hb ST61 SX62 NE64 RO65
        refine wpAnyG_one (i := 3) (by kernel_rfl) rfl (by rfl) (fun K hK => ?_)
        refine wp_append_at _ _ 22 rfl (wb.heap.size + 2) 32 iL _ 1 24 Try.underlying22 LI.out LZ0.out LZ1.out LZ2.out rfl (by decide) (.slice Ar i cr) i _ rfl (by have h := ST67.out.rows; rw [HRL.out] at h; exact h) _ 1 1 [.slice Ao nr co] rfl rfl (news1 NE70.out) (by intro u hu; simp at hu; subst hu; rfl) (by unfold maxLen; omega) (by omega) ST67.out.le ?_
        intro v5 wz73 hown5 hgrow5 hloc5
        obtain ⟨A5, c5, rfl⟩ := own_slice hown5
        have hlt5 : ∀ k, (Value.slice Ar i cr).ownBlock = some k → wb.heap.size + 2 ≤ k ∧ k < wz66.heap.size := fun k e => ST67.out.rows.lt k e
        have SX75 := Lib.hid (SX68.out.keep ((Below.refl _ _).grown hgrow5 SX68.out.size (fun k e => (hlt5 k e).1)))
        refine hK _ _ SX75.out ?_
        try simp only [Act.put, List.setIfInBounds_toArray, List.set_cons_zero, List.set_cons_succ]
        clear hK K
        have ST74 := Lib.hid (ST67.out.pushR (x := ⟨.slice Ao nr co, r⟩) (by show World.ownsRow _ _ _ 11 (.slice Ao nr co) r.length (r.flatMap It.cs); rw [HNR.out]; exact RO72.out) (by rw [HRL.out]; exact hown5) hgrow5 hloc5)
        have NE76 := Lib.hid ((hgrow5.block _ (blk_lt NE71.out) (fun e => by have h1 := hlt5 _ e.symm; have h2 := HVB.out _ e.symm; have h3 := HZ.out; omega)).trans NE71.out)
        clear hlt5 hown5 hgrow5 hloc5 ST67 SX68 NE71 NE70 RO72
        refine wpAnyG_one (i := 6) (by kernel_rfl) rfl (by rfl) (fun K hK => ?_)
        refine wp_append_at _ _ 22 rfl (wb.heap.size + 2) 32 iL _ 1 24 Try.underlying22 LI.out LZ0.out LZ1.out LZ2.out rfl (by decide) (.slice Ap i cp) i _ rfl (ST74.out.pas) _ 1 1 [.slice none 0 0] rfl rfl (news1 NE76.out) (by intro u hu; simp at hu; subst hu; rfl) (by unfold maxLen; omega) (by omega) ST74.out.le ?_
        intro v5 wz77 hown5 hgrow5 hloc5
        obtain ⟨A6, c6, rfl⟩ := own_slice hown5
        have hlt5 : ∀ k, (Value.slice Ap i cp).ownBlock = some k → wb.heap.size + 2 ≤ k ∧ k < wz73.heap.size := fun k e => ST74.out.pas.lt k e
        have SX79 := Lib.hid (SX75.out.keep ((Below.refl _ _).grown hgrow5 SX75.out.size (fun k e => (hlt5 k e).1)))
        refine hK _ _ SX79.out ?_
        try simp only [Act.put, List.setIfInBounds_toArray, List.set_cons_zero, List.set_cons_succ]
        clear hK K
        have ST78 := Lib.hid (ST74.out.pushP hown5 hgrow5 hloc5)
        clear hlt5 hown5 hgrow5 hloc5 ST74 SX75 NE76
        refine wpAnyG_one (i := 9) (by kernel_rfl) rfl (by rfl) (fun K hK => ?_)
        go_simp
        refine (ccuts_any B r es _ _ (Row.of_own It.cs_len (ST78.out.rit ⟨.slice Ao nr co, r⟩ (by simp)) rfl) HCR.out).mono ?_
        rintro e wz80 ⟨vo7, hs7, rfl, hrr7, hl7, hd7, hb7⟩
        obtain ⟨A7, c7, rfl⟩ := own_slice hrr7.own
        have SX82 := Lib.hid (SX79.out.keep (hb7.mono SX79.out.size))
        refine hK _ _ SX82.out ?_
        try simp only [Act.put, List.setIfInBounds_toArray, List.set_cons_zero, List.set_cons_succ]
        clear hK K
        have ST81 := Lib.hid (ST78.out.below hb7)
        have RR83 := Lib.hid (hrr7.base ST78.out.le)
        have HSEP := Lib.hid (show ∀ k, (Value.slice A7 hs7.length c7).ownBlock = some k → (Value.slice A5 (i + 1) c5).ownBlock ≠ some k ∧ (Value.slice A6 (i + 1) c6).ownBlock ≠ some k from fun k hk => ⟨fun e => by have h1 := (hrr7.own.lt k hk).1; have h2 := (ST78.out.rows.lt k e).2; omega, fun e => by have h1 := (hrr7.own.lt k hk).1; have h2 := (ST78.out.pas.lt k e).2; omega⟩)
        have HL7 := Lib.hid hl7
        have HD7 := Lib.hid hd7
        clear hrr7 hb7 hl7 hd7 ST78 SX79
        refine wpAnyG_one (i := 10) (by kernel_rfl) rfl (by rfl) (fun K hK => ?_)
        go_simp
        refine hK _ _ (SX82.out.keep ((Below.refl _ _).alloc SX82.out.size _)) ?_
        try simp only [Act.put, List.setIfInBounds_toArray, List.set_cons_zero, List.set_cons_succ]
        clear hK K
        obtain ⟨wz84, hw⟩ : ∃ X, X = wz80.alloc (.cells #[.slice A7 hs7.length c7] 22) := ⟨_, rfl⟩
        rw [← hw]
        have hb : Below wz80.heap.size wz80 wz84 := by rw [hw]; exact bel_alloc (Below.refl _ _) _
        have hs87 := hb.size
        have SX86 := Lib.hid (SX82.out.keep (hb.mono SX82.out.size))
        have ST85 := Lib.hid (ST81.out.below hb)
        have NE88 := Lib.hid (show wz84.heap[wz80.heap.size]? = some (.cells #[.slice A7 hs7.length c7] 22 (0, 0)) by rw [hw]; exact heap_at _ _ _ rfl)
        have RR89 := Lib.hid (RR83.out.below hb)
        clear hw hb ST81 SX82 RR83
        refine wpAnyG_one (i := 11) (by kernel_rfl) rfl (by rfl) (fun K hK => ?_)
        refine wp_append_at _ _ 31 rfl (wb.heap.size + 2) 22 iK _ 1 24 Try.underlying31 KI.out KZ0.out KZ1.out KZ2.out rfl (by decide) (.slice Aw i cw) i _ rfl (by have h := ST85.out.wan; rw [HWL.out] at h; exact h) _ 1 1 [.slice A7 hs7.length c7] rfl rfl (news1 NE88.out) (by intro u hu; simp at hu; subst hu; rfl) (by unfold maxLen; omega) (by omega) ST85.out.le ?_
        intro v5 wz90 hown5 hgrow5 hloc5
        obtain ⟨A8, c8, rfl⟩ := own_slice hown5
        have hlt5 : ∀ k, (Value.slice Aw i cw).ownBlock = some k → wb.heap.size + 2 ≤ k ∧ k < wz84.heap.size := fun k e => ST85.out.wan.lt k e
        have SX92 := Lib.hid (SX86.out.keep ((Below.refl _ _).grown hgrow5 SX86.out.size (fun k e => (hlt5 k e).1)))
        refine hK _ _ SX92.out ?_
        try simp only [Act.put, List.setIfInBounds_toArray, List.set_cons_zero, List.set_cons_succ]
        clear hK K
        have ST91 := Lib.hid (ST85.out.pushW (x := ⟨.slice A7 hs7.length c7, hs7⟩) RR89.out HSEP.out (by rw [HWL.out]; exact hown5) hgrow5)
        clear hlt5 hown5 hgrow5 hloc5 ST85 SX86 NE88 RR89
        refine wpAnyG_one (i := 12) (by kernel_rfl) rfl (by rfl) (fun K hK => ?_)
        go_simp
        refine hK _ _ SX92.out ?_
        try simp only [Act.put, List.setIfInBounds_toArray, List.set_cons_zero, List.set_cons_succ]
        clear hK K
        have xP : wz90.cell? ⟨wb.heap.size, 0, none⟩ = some (.slice Ap i cp) := cellsAt SX92.out.p 0
        have fP := frozAt SX92.out.p
        have zP := blk_lt SX92.out.p
        refine wpAnyG_late (i := 13) (by kernel_rfl) rfl (by rfl) (by rfl) (fun K hK => ?_)
        go_simp
        refine hK _ _ ?_
        try simp only [Act.put, List.setIfInBounds_toArray, List.set_cons_zero, List.set_cons_succ]
        clear hK K
        obtain ⟨wz93, hw⟩ : ∃ X, X = wz90.setCell ⟨wb.heap.size, 0, none⟩ (.slice A6 (i + 1) c6) := ⟨_, rfl⟩
        rw [← hw]
        have h1 : wz93.heap[wb.heap.size]? = some (.cells #[.slice A6 (i + 1) c6] 22 (0, 0)) := by rw [hw]; exact set1 SX92.out.p _
        have k1 : ∀ k, k ≠ wb.heap.size → wz93.heap[k]? = wz90.heap[k]? := fun k hk => by rw [hw]; exact Below.heap_setCell _ ⟨wb.heap.size, 0, none⟩ _ k hk
        have s1 : wz93.heap.size = wz90.heap.size := by rw [hw]; simp [World.setCell]
        have b1 : Below wb.heap.size W2 wz93 := by rw [hw]; exact SX92.out.below.setCell (p := ⟨wb.heap.size, 0, none⟩) (Nat.le_refl _) _
        have hv1 := (k1 (wb.heap.size + 1) (by omega)).trans SX92.out.v
        have T1 := Lib.hid (ST91.out.keepHi (fun k hk => k1 k (by omega)) s1)
        clear hw k1 s1 xP fP zP ST91 SX92
        have H1 := Lib.hid h1
        have HV1 := Lib.hid hv1
        have HB1b := Lib.hid b1
        have xP : wz93.cell? ⟨wb.heap.size + 1, 0, none⟩ = some (.slice Aw i cw) := cellsAt hv1 0
        have fP := frozAt hv1
        have zP := blk_lt hv1
        clear h1 hv1 b1
        refine wpAnyG_late (i := 14) (by kernel_rfl) rfl (by rfl) (by rfl) (fun K hK => ?_)
        go_simp
        refine hK _ _ ?_
        try simp only [Act.put, List.setIfInBounds_toArray, List.set_cons_zero, List.set_cons_succ]
        clear hK K
        refine wpAnyG_done (by kernel_rfl) ?_ _
        go_wp2_with fail
        go_roundw
        case rel => exact ⟨i + 1, by go_num, _, _, _, _, .slice A6 (i + 1) c6, .slice A8 (i + 1) c8, by omega, HRW.out.push HCR.out (.slice Ao nr co) (.slice A7 hs7.length c7) HL7.out HD7.out, T1.out.keepHi (fun k hk => Below.heap_setCell _ ⟨wb.heap.size + 1, 0, none⟩ _ k (by show k ≠ wb.heap.size + 1; omega)) (by simp [World.setCell]), (Below.heap_setCell _ ⟨wb.heap.size + 1, 0, none⟩ _ _ (by show wb.heap.size ≠ wb.heap.size + 1; omega)).trans H1.out, set1 HV1.out _, HB1b.out.setCell (p := ⟨wb.heap.size + 1, 0, none⟩) (by show wb.heap.size ≤ wb.heap.size + 1; omega) _⟩
        case measure => simp [intOf]; omega
    · have hiN3 : i = N := by omega
      subst hiN3
      clear hlt
      obtain ⟨gp, cap, egp, hgp1, hgp2, -⟩ := own_form HST.out.pas (by omega)
      injection egp with f1 f2 f3
      subst f1 f3
      obtain ⟨gr, car, egr, hgr1, hgr2, -⟩ := own_form HST.out.rows (by rw [HRL.out]; omega)
      injection egr with f4 f5 f6
      subst f4 f6
      clear f2 f5
      go_upto_region 17 with fail
      obtain ⟨W4, hW4⟩ : ∃ X, X = ((wr.alloc (.cells #[.int .i64 0] 3)).alloc (.cells #[.bool true] 4)).alloc (.cells #[.nilFunc] 35) := ⟨_, rfl⟩
      rw [← hW4]
      have BW4 := Lib.hid (show Below wr.heap.size wr W4 by rw [hW4]; exact bel_alloc (bel_alloc (bel_alloc (Below.refl _ _) _) _) _)
      have hs4 : W4.heap.size = wr.heap.size + 1 + 1 + 1 := by rw [hW4]; simp
      have C4 := Lib.hid (show W4.heap[wr.heap.size]? = some (.cells #[.int .i64 0] 3 (0, 0)) by rw [hW4]; exact (heap_alloc_old _ _ (by simp; omega)).trans ((heap_alloc_old _ _ (by simp)).trans (heap_at _ _ _ rfl)))
      have O4 := Lib.hid (show W4.heap[wr.heap.size + 1]? = some (.cells #[.bool true] 4 (0, 0)) by rw [hW4]; exact (heap_alloc_old _ _ (by simp)).trans (heap_at _ _ _ (by simp)))
      have hf4 : W4.heap[wr.heap.size + 1 + 1]? = some (.cells #[.nilFunc] 35 (0, 0)) := by rw [hW4]; exact heap_at _ _ _ (by simp)
      have F4 := Lib.hid hf4
      have xf4 := cellsAt hf4 0
      have ff4 := frozAt hf4
      have zf4 := blk_lt hf4
      simp at xf4
      clear hW4 hf4
      have hsf : ∀ (X : World) (p : Addr) (g : Fn) (cs : Array Value) (md : Mode), (store p (.func g #[] cs) md).run Try.prog X = stored Try.prog X p (.func g #[] cs) md := fun X p g cs md => run_store Try.prog X p _ md rfl
      go_upto_region 18 with fail
      clear hsf xf4 ff4 zf4
      obtain ⟨W5, hW5⟩ : ∃ X, X = W4.setCell ⟨wr.heap.size + 1 + 1, 0, none⟩ (.func (.func 18) #[] #[.pointer (some ⟨w1.heap.size, 0, none⟩), .pointer (some ⟨wr.heap.size + 1, 0, none⟩), .pointer (some ⟨wb.heap.size, 0, none⟩), .pointer (some ⟨wr.heap.size, 0, none⟩), .pointer (some ⟨wb.heap.size + 1, 0, none⟩), .pointer (some ⟨wr.heap.size + 1 + 1, 0, none⟩)]) := ⟨_, rfl⟩
      rw [← hW5]
      have hk5 : ∀ b, b ≠ wr.heap.size + 1 + 1 → W5.heap[b]? = W4.heap[b]? := fun b hb => by rw [hW5]; exact Below.heap_setCell _ ⟨wr.heap.size + 1 + 1, 0, none⟩ _ b hb
      have hs5 : W5.heap.size = W4.heap.size := by rw [hW5]; simp [World.setCell]
      have hF5 : W5.heap[wr.heap.size + 1 + 1]? = some (.cells #[.func (.func 18) #[] #[.pointer (some ⟨w1.heap.size, 0, none⟩), .pointer (some ⟨wr.heap.size + 1, 0, none⟩), .pointer (some ⟨wb.heap.size, 0, none⟩), .pointer (some ⟨wr.heap.size, 0, none⟩), .pointer (some ⟨wb.heap.size + 1, 0, none⟩), .pointer (some ⟨wr.heap.size + 1 + 1, 0, none⟩)]] 35 (0, 0)) := by rw [hW5]; exact set1 F4.out _
      have BW5 : Below wr.heap.size wr W5 := by rw [hW5]; exact BW4.out.setCell (p := ⟨wr.heap.size + 1 + 1, 0, none⟩) (by show wr.heap.size ≤ wr.heap.size + 1 + 1; omega) _
      have hsr := HBL.out.size
      have hsq := B2.out.size
      have BAL : Below wb.heap.size wb W5 := (B2.out.trans HBL.out).trans (BW5.mono (by omega))
      have BAM : Below w1.heap.size w1 W5 := (BA.out.trans (BB.out.mono (by omega))).trans (BAL.mono (by omega))
      have hA5 : W5.heap[w1.heap.size]? = some (.cells #[.int .i64 0, .slice Ag i cg, .slice Ah i ch] 26 (0, 0)) := (BAL.block _ (by omega)).trans ((BB.out.block _ (by omega)).trans NA.out)
      have BALL := Lib.hid (HB1.out.trans (BAM.mono hsw))
      obtain ⟨F, e1, e2, e3, e4, e5, e6, e7, e8, e9, e10, e11, e12, e13, e14, e15, e16⟩ : ∃ F : CFix, F.bA = w1.heap.size ∧ F.bOK = wr.heap.size + 1 ∧ F.bP = wb.heap.size ∧ F.bC = wr.heap.size ∧ F.bW = wb.heap.size + 1 ∧ F.bF = wr.heap.size + 1 + 1 ∧ F.gP = gp ∧ F.gR = gr ∧ F.cP = cp ∧ F.bs = W5.heap.size ∧ F.n = i ∧ F.B = B ∧ F.vW = .slice Aw i cw ∧ F.R = R ∧ F.E = E ∧ F.vF = F.func :=
        ⟨⟨w1.heap.size, wr.heap.size + 1, wb.heap.size, wr.heap.size, wb.heap.size + 1, wr.heap.size + 1 + 1, gp, gr, cp, W5.heap.size, i, B, .slice Aw i cw, .func (.func 18) #[] #[.pointer (some ⟨w1.heap.size, 0, none⟩), .pointer (some ⟨wr.heap.size + 1, 0, none⟩), .pointer (some ⟨wb.heap.size, 0, none⟩), .pointer (some ⟨wr.heap.size, 0, none⟩), .pointer (some ⟨wb.heap.size + 1, 0, none⟩), .pointer (some ⟨wr.heap.size + 1 + 1, 0, none⟩)], R, E⟩, rfl, rfl, rfl, rfl, rfl, rfl, rfl, rfl, rfl, rfl, rfl, rfl, rfl, rfl, rfl, rfl⟩
      obtain ⟨hF, hM0, hR0⟩ := BSt.start (F := F) (bs := wb.heap.size + 2) (W0 := wr) (W := W5) (vr := .slice (some ⟨gr, 0, none⟩) i cr) (vp := .slice (some ⟨gp, 0, none⟩) i cp) (rs := rs) (ws := ws) (by rw [e11, e13]; exact HST.out) (by rw [e11, e12, e14, e15]; exact HRW.out) (by omega) BW5 (by rw [e7, e9, e11]) (cR := cr) (by rw [e8, e11]) (by omega) (by omega) (by omega) (by omega) (by omega) (by omega) (by omega) e10 (va := .agg #[.int .i64 0, .slice Ag i cg, .slice Ah i ch]) (a := newA' i)
        ⟨_, _, _, rfl, by rw [e1]; exact hA5⟩ (by rw [e2]; exact (hk5 _ (by omega)).trans O4.out) (by rw [e3, e7, e9, e11]; exact (BW5.block _ (by omega)).trans HBP.out) (by rw [e4]; exact (hk5 _ (by omega)).trans C4.out) (by rw [e5, e13]; exact (BW5.block _ (by omega)).trans HBV.out) (by rw [e6, e16]; unfold CFix.func; rw [e1, e2, e3, e4, e5, e6]; exact hF5) (HAL.out.below BAM) (fun k hk => by rw [e1]; exact HAL.out.blk_lt hk)
      have hbar : ∀ j, j < i → CutRow B (R j) (E j) := HRW.out.row
      rw [← e6, ← e2, ← e4, ← e5, ← e3, ← e1]
      have g1 : w.heap.size ≤ F.bA := by omega
      have g2 : w.heap.size ≤ F.bC := by omega
      have g3 : w.heap.size ≤ F.gP := by omega
      have g4 : w.heap.size ≤ F.bs := by omega
      have g5 : w.heap.size ≤ F.gR := by omega
      subst e7 e8 e9 e11 e12 e14 e15
      have HF := Lib.hid hF
      have HVF := Lib.hid e16
      have M0 := Lib.hid hM0
      have R0 := Lib.hid hR0
      have CR := Lib.hid hbar
      clear hW5 hk5 hs5 hF5 BW5 hsr hsq BAL BAM hA5 e1 e2 e3 e4 e5 e6 e10 e13 e16 hF hM0 hR0 hbar HAL HB1 NA BA hsa BB hsb NP NW B2 hs2 HBW hsw LI LZ0 LZ1 LZ2 KI KZ0 KZ1 KZ2 HRW HST HBP HBV HBL HRL HWL hgp1 hgp2 hgr1 hgr2 BW4 hs4 C4 O4 F4 HV HAT HM HNW
      go_wp2_with fail
      go_loopw [19, 80] (fun vl vi wq => LfRel F W5 vl vi wq) (fun _ vi _ => F.n - (intOf vi).toNat)
      case atStart => exact ⟨0, Nat.zero_le _, rfl, rfl, rfl⟩
      case round =>
        obtain ⟨j, hjn, rfl, rfl, hwq⟩ := hrel
        subst hwq
        by_cases hlt : j < F.n
        · obtain ⟨x, hx1, hx2, hx3, -⟩ := R0.out.at_ j hlt
          have hro := Row.of_own Hl.cs_len R0.out.own (by rw [R0.out.len])
          obtain ⟨b1, o1, c1, hv1, -, -, hY⟩ := hro.at_ hx1
          injection hv1 with f1 f2 f3
          injection f1 with f1
          injection f1 with f1 f5 f6
          subst f1 f5
          have r0 := hY 0 _ rfl
          simp only [Nat.zero_add, Nat.mul_one, Nat.add_zero] at r0
          obtain ⟨Ax, cx, hxr, -, -⟩ := hx3
          rw [hxr, hx2, List.drop_zero] at r0
          obtain ⟨nj, hnj⟩ : ∃ z, (F.R j).length = z := ⟨_, rfl⟩
          obtain ⟨sj, hsj⟩ : ∃ z, sumN (fun q => (F.R q).length) j = z := ⟨_, rfl⟩
          have hnj14 : nj ≤ 14 := by rw [← hnj]; exact (CR.out j hlt).len
          have hsj14 : sj ≤ 14 * j := by rw [← hsj]; exact sumN_le j (fun q hq => (CR.out q (by omega)).len)
          have HNS := Lib.hid (show sumN (fun q => (F.R q).length) (j + 1) = sj + nj by show sumN _ j + (F.R j).length = _; rw [hsj, hnj])
          rw [hnj] at r0
          rw [hsj]
          have hjn2 : (j : Int) < (F.n : Int) := by omega
          clear hx1 hx2 hxr hro hY hnj hsj f2 f3 f6
          go_wp2_with fail
          go_roundw
          case rel => exact ⟨j + 1, by omega, by rw [HNS.out]; go_num, by go_num, rfl⟩
          case measure => simp [intOf]; omega
        · have hjn3 : j = F.n := by omega
          subst hjn3
          clear hlt hjn
          go_wp2_with fail
          go_loopw [19, 22] (fun vl vi wq => MlRel F T cr w vl vi wq) (fun _ vi _ => T + 14 * F.n - (intOf vi).toNat)
          case atStart =>
            exact ⟨0, _, 0, fun _ => 0, _, newA' F.n, fun _ => [], _, rs, rfl, rfl, sumN_congr _ (fun j hj => rfl), Nat.zero_le _, TmOk.early (fun j hj => (CR.out j hj).len) (Nat.zero_le _), M0.out, CSt.start hN1 hN8 hB2 CR.out, fun j hj => ⟨hZ, by simp [hj], rfl⟩, R0.out, BALL.out⟩
          case round =>
            obtain ⟨i, L, c, pos, va, a, P, hs, rs, rfl, rfl, hL, hiT, htm, hm, hcs, hps, hrs, hbl⟩ := hrel
            have QL := Lib.hid hL
            have QT := Lib.hid htm
            have QM := Lib.hid hm
            have QC := Lib.hid hcs
            have QP := Lib.hid hps
            have QR := Lib.hid hrs
            have QB := Lib.hid hbl
            have xo : wr.cell? ⟨F.bOK, 0, none⟩ = some (.bool true) := cellsAt hm.OK 0
            clear hL htm hm hcs hps hrs hbl M0 R0 BALL
            by_cases hl0 : 0 < L
            · have hiT2 : i < T + 14 * F.n := QT.out.lt (by rw [← QL.out]; exact hl0)
              have dl : decide ((0 : Int) < (L : Int)) = true := decide_eq_true (by omega)
              go_upto_if 100 with fail
              go_cut [23] (fun vk w8 => ∃ q : Int, vk = .int .i64 q ∧ wfL q ∧ (¬ i < T → q = (i : Int)) ∧ w8 = wr)
              case first =>
                by_cases hit : i < T
                · obtain ⟨q, hq⟩ : ∃ q, tl[i]? = some q := ⟨_, List.getElem?_eq_getElem (by rw [HT.out]; exact hit)⟩
                  have hrow := HU.out.below QB.out
                  obtain ⟨b, o, c', hv', -, hb, hX⟩ := hrow.at_ hq
                  rw [HT.out] at hv'
                  injection hv' with f1 f2 f3
                  subst f1 f3
                  have t0 := hX 0 _ rfl
                  simp only [Nat.mul_one, Nat.add_zero] at t0
                  have hwq := HUT.out q (List.mem_of_getElem? hq)
                  have HWQ := Lib.hid hwq
                  have hit2 : (i : Int) < (T : Int) := by omega
                  have dt : decide ((i : Int) < (T : Int)) = true := decide_eq_true hit2
                  clear hX hrow hq f2 hwq hb
                  go_wp2_with fail
                  go_meet
                  exact ⟨q, rfl, HWQ.out, fun h => absurd hit h, rfl⟩
                · have hit2 : ¬ (i : Int) < (T : Int) := by omega
                  have dt : decide ((i : Int) < (T : Int)) = false := decide_eq_false hit2
                  go_wp2_with fail
                  go_meet
                  exact ⟨i, rfl, by unfold wfL; omega, fun _ => rfl, rfl⟩
              case rest =>
                obtain ⟨q, rfl, hwq, hqi, hw8⟩ := hcut
                subst hw8
                have HWQ := Lib.hid hwq
                have HQI := Lib.hid hqi
                clear hwq hqi
                go_upto_region 31 with fail
                obtain ⟨k, hk, hkv, hki⟩ := turn_at (q := q) hN1 hN8
                have HKI := Lib.hid (show ¬ i < T → k = i % F.n from fun h => hki i (HQI.out h))
                rw [hkv]
                clear hkv hki HWQ HQI
                obtain ⟨y, hy1, hy2, hy3, -⟩ := QR.out.at_ k hk
                have hro := Row.of_own Hl.cs_len QR.out.own (by rw [QR.out.len])
                obtain ⟨b1, o1, c1, hv1, -, -, hY⟩ := hro.at_ hy1
                injection hv1 with f1 f2 f3
                injection f1 with f1
                injection f1 with f1 f5 f6
                subst f1 f5
                have r0 := hY 0 _ rfl
                simp only [Nat.zero_add, Nat.mul_one, Nat.add_zero] at r0
                obtain ⟨Ay, cy, hyr, hcy, -⟩ := id hy3
                rw [hyr] at r0
                obtain ⟨ny, hny⟩ : ∃ z, y.l.length = z := ⟨_, rfl⟩
                have hny2 : ny = (F.R k).length - pos k := by rw [← hny, hy2, List.length_drop]
                rw [hny] at r0 hcy
                have HNY2 := Lib.hid hny2
                have hkn : (k : Int) < (F.n : Int) := by omega
                have HY1 := Lib.hid hy1
                have HY2 := Lib.hid hy2
                have HY3 := Lib.hid hy3
                have HYR := Lib.hid hyr
                have HNY := Lib.hid hny
                clear hro hY f2 f3 f6 hny2 hy1 hy2 hy3 hyr hny
                by_cases he : ny = 0
                · have HE := Lib.hid he
                  subst he
                  by_cases hit : i < T
                  · have HIT := Lib.hid hit
                    have dt : decide ((i : Int) < (T : Int)) = true := decide_eq_true (by omega)
                    have hit2 : (i : Int) < (T : Int) := by omega
                    clear hit HE
                    go_wp2_with fail
                    go_roundw
                    case rel => exact ⟨i + 1, L, c, pos, va, a, P, hs, rs, rfl, by go_num, QL.out, by omega, TmOk.early (fun j hj => by have := (CR.out j hj).len; show (F.R j).length - pos j ≤ 14; omega) HIT.out, QM.out, QC.out, QP.out, QR.out, QB.out⟩
                    case measure => simp [intOf]; omega
                  · have HIT := Lib.hid hit
                    have dt : decide ((i : Int) < (T : Int)) = false := decide_eq_false (by omega)
                    have hit2 : ¬ (i : Int) < (T : Int) := by omega
                    have hmod : ((i : Int)).tmod (F.n : Int) = (k : Int) := by rw [tmod_nat, ← HKI.out hit]
                    clear hit HE
                    go_wp2_with fail
                    go_roundw
                    case rel => exact ⟨i + 1, L, c, pos, va, a, P, hs, rs, rfl, by go_num, QL.out, by omega, QT.out.step (k := k) (by have := HIT.out; omega) (HKI.out HIT.out).symm (fun j _ => rfl) (by show (F.R k).length - pos k = (F.R k).length - pos k - 1; have := HNY2.out; omega), QM.out, QC.out, QP.out, QR.out, QB.out⟩
                    case measure => simp [intOf]; omega
                · have hny1 : 1 ≤ ny := by omega
                  have dn : ((ny : Int) == 0) = false := beq_eq_false_iff_ne.2 (by omega)
                  obtain ⟨x, hx⟩ : ∃ x, y.l[0]? = some x := ⟨_, List.getElem?_eq_getElem (by rw [HNY.out]; omega)⟩
                  obtain ⟨b, o, cy', hv', hcc, hb, hX⟩ := HY3.out.at_ hx
                  rw [HYR.out] at hv'
                  injection hv' with f1 f2 f3
                  subst f1 f3
                  have d0 := hX 0 _ rfl
                  have d1 := hX 1 _ rfl
                  have d2 := hX 2 _ rfl
                  have d3 := hX 3 _ rfl
                  have d4 := hX 4 _ rfl
                  have d5 := hX 5 _ rfl
                  have d6 := hX 6 _ rfl
                  have d7 := hX 7 _ rfl
                  have d8 := hX 8 _ rfl
                  have d9 := hX 9 _ rfl
                  have d10 := hX 10 _ rfl
                  simp only [Nat.zero_mul, Nat.add_zero] at d0 d1 d2 d3 d4 d5 d6 d7 d8 d9 d10
                  have HX := Lib.hid (show (F.R k)[pos k]? = some x from drop_at (by rw [← HY2.out]; exact hx))
                  obtain ⟨y0, y1, y2, y3, y4, y5, y6, y7, y8, y9, y10⟩ := x
                  simp only at d0 d1 d2 d3 d4 d5 d6 d7 d8 d9 d10
                  obtain ⟨AD, hAD⟩ : ∃ AD, (if cy = 1 then some (⟨b, o, none⟩ : Addr) else some ⟨b, o + 11, none⟩) = AD := ⟨_, rfl⟩
                  clear hX hx f2 hb he hcc
                  go_upto_region 36 with fail
                  obtain ⟨W6, hW6⟩ : ∃ X, X = wc.alloc (.cells #[.int .i64 y0, .string y1, .int .i64 y2, .int .i64 y3, .int .i64 y4, .int .i64 y5, .int .i64 y6, .int .i64 y7, .string y8, .int .i64 y9, .int .i64 y10] 43) := ⟨_, rfl⟩
                  rw [← hW6]
                  have N6 := Lib.hid (show W6.heap[wc.heap.size]? = some (.cells #[.int .i64 y0, .string y1, .int .i64 y2, .int .i64 y3, .int .i64 y4, .int .i64 y5, .int .i64 y6, .int .i64 y7, .string y8, .int .i64 y9, .int .i64 y10] 43 (0, 0)) by rw [hW6]; exact heap_at _ _ _ rfl)
                  have B6 := Lib.hid (show Below wc.heap.size wc W6 by rw [hW6]; exact bel_alloc (Below.refl _ _) _)
                  have M6 := Lib.hid (QM.out.below HF.out B6.out)
                  have R6 := Lib.hid (QR.out.below B6.out)
                  have q6 : W6.cell? ⟨F.gR, k, none⟩ = some (.slice (some ⟨b, o, none⟩) ny cy) := (B6.out.cell (cell_lt r0)).trans r0
                  have hzc := QM.out.size
                  have hzg := HF.out.gr
                  clear hW6 d0 d1 d2 d3 d4 d5 d6 d7 d8 d9 d10 r0
                  rcases R6.out.own.2 with ⟨h0, -⟩ | ⟨g2, cap2, cur2, hv2, -, hcur2, -⟩
                  · cases h0
                  injection hv2 with f1 f2 f3
                  injection f1 with f1
                  injection f1 with f1
                  subst f1
                  have f6 := frozAt hcur2
                  have z6 := blk_lt hcur2
                  clear f2 f3 hcur2
                  go_upto_region 37 with fail
                  obtain ⟨W7, hW7⟩ : ∃ X, X = W6.setCell ⟨F.gR, k, none⟩ (.slice AD (ny - 1) (cy - 1)) := ⟨_, rfl⟩
                  rw [← hW7]
                  have hk7 : ∀ j, j ≠ F.gR → W7.heap[j]? = W6.heap[j]? := fun j hj => by rw [hW7]; exact Below.heap_setCell _ ⟨F.gR, k, none⟩ _ j hj
                  have hs7 : W7.heap.size = W6.heap.size := by rw [hW7]; simp [World.setCell]
                  have R7 := Lib.hid (show ∃ rs', RstAt F W7 cr rs' (updN pos k (pos k + 1)) by
                    have h := R6.out.turn hk HY1.out (b := b) (o := o) (cy := cy) (by rw [HYR.out, HNY.out]) (by rw [HNY.out]; omega)
                    rw [hAD, HNY.out] at h
                    rw [hW7]
                    exact ⟨_, h⟩)
                  have M7 := Lib.hid (M6.out.setR HF.out hk7 hs7)
                  have N7 := Lib.hid ((hk7 wc.heap.size (by omega)).trans N6.out)
                  have B7 := Lib.hid (show Below w.heap.size w W7 by rw [hW7]; exact (bThen QB.out B6.out).setCell (p := ⟨F.gR, k, none⟩) g5 _)
                  clear hW7 hk7 hs7 R6 M6 N6 B6 q6 f6 z6 xo hAD
                  have xf : W7.cell? ⟨F.bF, 0, none⟩ = some F.vF := cellsAt M7.out.Fn 0
                  rw [HVF.out] at xf
                  unfold CFix.func at xf
                  have u0 := cellsAt N7.out 0
                  have u1 := cellsAt N7.out 1
                  have u2 := cellsAt N7.out 2
                  have u3 := cellsAt N7.out 3
                  have u4 := cellsAt N7.out 4
                  have u5 := cellsAt N7.out 5
                  have u6 := cellsAt N7.out 6
                  have u7 := cellsAt N7.out 7
                  have u8 := cellsAt N7.out 8
                  have u9 := cellsAt N7.out 9
                  have u10 := cellsAt N7.out 10
                  simp at u0 u1 u2 u3 u4 u5 u6 u7 u8 u9 u10
                  have HCL := cclos F HF.out HVF.out _ c (Nat.le_refl _) k ⟨y0, y1, y2, y3, y4, y5, y6, y7, y8, y9, y10⟩ pos va a P hs _ M7.out QC.out QP.out hk HX.out
                  unfold itV at HCL
                  have HCLH := Lib.hid HCL
                  clear HCL
                  go_wp2_with fail
                  refine HCLH.out.mono ?_
                  rintro e w9 ⟨rfl, c', va', a', P', hs', -, hm', hcs', hps', hkp'⟩
                  obtain ⟨rs', hr7⟩ := R7.out
                  have TM := Lib.hid hm'
                  have TC := Lib.hid hcs'
                  have TP := Lib.hid hps'
                  have T9 := Lib.hid (hr7.kept HF.out M7.out hkp')
                  have TB := Lib.hid (B7.out.trans (hkp'.old M7.out g1 g2 g3 g4))
                  have TL := Lib.hid (show sumN (fun j => (F.R j).length - updN pos k (pos k + 1) j) F.n + 1 = L by
                    rw [QL.out]
                    refine sumN_take (k := k) ?_ (fun j hj => ?_) F.n hk
                    · show (F.R k).length - updN pos k (pos k + 1) k + 1 = (F.R k).length - pos k
                      rw [updN_same]
                      have := HNY2.out
                      omega
                    · show (F.R j).length - updN pos k (pos k + 1) j = (F.R j).length - pos j
                      rw [updN_other _ _ hj])
                  have TT := Lib.hid (show TmOk T F.n (i + 1) (fun j => (F.R j).length - updN pos k (pos k + 1) j) by
                    by_cases hit : i < T
                    · exact TmOk.early (fun j hj => by have := (CR.out j hj).len; show (F.R j).length - _ ≤ 14; omega) hit
                    · refine QT.out.step (k := k) (by omega) (HKI.out hit).symm (fun j hj => ?_) ?_
                      · show (F.R j).length - updN pos k (pos k + 1) j = (F.R j).length - pos j
                        rw [updN_other _ _ hj]
                      · show (F.R k).length - updN pos k (pos k + 1) k = (F.R k).length - pos k - 1
                        rw [updN_same]
                        omega)
                  clear hr7 hm' hcs' hps' hkp' R7 M7 N7 B7 xf u0 u1 u2 u3 u4 u5 u6 u7 u8 u9 u10 HCLH
                  have hLL : L ≤ 9223372036854775807 := by
                    have h1 := sumN_le (f := fun j => (F.R j).length - pos j) (M := 14) F.n (fun j hj => by have := (CR.out j hj).len; show (F.R j).length - pos j ≤ 14; omega)
                    rw [← QL.out] at h1
                    omega
                  obtain ⟨L', hL'⟩ : ∃ z, sumN (fun j => (F.R j).length - updN pos k (pos k + 1) j) F.n = z := ⟨_, rfl⟩
                  have HL' := Lib.hid hL'
                  have hLe : L = L' + 1 := by have := TL.out; omega
                  subst hLe
                  have hwL : wrap64 (L' : Int) = (L' : Int) := by unfold wrap64; omega
                  clear hL'
                  go_wp2_with fail
                  go_roundw
                  case rel => exact ⟨i + 1, L', c', updN pos k (pos k + 1), va', a', P', hs', rs', by go_num, by go_num, HL'.out.symm, by omega, TT.out, TM.out, TC.out, TP.out, T9.out, TB.out⟩
                  case measure => simp [intOf]; omega
            · have hl00 : L = 0 := by omega
              subst hl00
              have HFU := Lib.hid (QC.out.full (fun j hj => sumN_zero F.n QL.out.symm j hj))
              have hcB : c = F.B := HFU.out.1
              subst hcB
              clear hl0 QL QT QR
              have xp := cellsAt QM.out.P 0
              simp at xp
              go_wp2_with fail
              clear xp xo
              go_loopw [153] (fun vi wq => FlRel F wr vi wq) (fun vi _ => F.n - (intOf vi).toNat)
              case atStart => exact ⟨0, rfl, Nat.zero_le _, Below.refl _ _⟩
              case round =>
                obtain ⟨j, rfl, hjn, hbw⟩ := hrel
                have BW := Lib.hid hbw
                have M1 := Lib.hid (QM.out.below HF.out hbw)
                clear hbw
                have xo : wr.cell? ⟨F.bOK, 0, none⟩ = some (.bool true) := cellsAt M1.out.OK 0
                have xc : wr.cell? ⟨F.bC, 0, none⟩ = some (.int .i64 (F.B : Int)) := cellsAt M1.out.C 0
                by_cases hlt : j < F.n
                · obtain ⟨y, hy1, hy2⟩ := QP.out j hlt
                  have hyl : y.l = ((F.R j).take (F.E j F.B)).drop (sgo (F.E j) F.B) := hy2.trans (HFU.out.2 j hlt)
                  have hym := List.mem_of_getElem? hy1
                  have hro := Row.of_own Hl.cs_len M1.out.own (by rw [M1.out.len])
                  obtain ⟨b1, o1, c1, hv1, -, -, hY⟩ := hro.at_ hy1
                  injection hv1 with f1 f2 f3
                  injection f1 with f1
                  injection f1 with f1 f5 f6
                  subst f1 f5
                  have r0 := hY 0 _ rfl
                  simp only [Nat.zero_add, Nat.mul_one, Nat.add_zero] at r0
                  obtain ⟨Ay, cy, hyr⟩ := own_slice (M1.out.rows y hym)
                  have hrowy := Row.of_own It.cs_len (M1.out.rows y hym) rfl
                  rw [hyr] at r0 hrowy
                  rw [hyl] at r0 hrowy
                  obtain ⟨bw, ow, cw, hvW, hsw, hWt⟩ := M1.out.want
                  obtain ⟨bi, ci, q1, q2, q3⟩ := hWt j hlt
                  obtain ⟨v, q4, q5, q6⟩ := q3 F.B (Nat.le_refl _)
                  have HQ := Lib.hid q5
                  have HRY := Lib.hid (show RowI wr _ _ from ⟨hrowy, q5.2⟩)
                  obtain ⟨Av, cv, rfl, -, -⟩ := q5.1
                  have xw : wr.cell? ⟨F.bW, 0, none⟩ = some F.vW := cellsAt M1.out.Wn 0
                  rw [hvW] at xw
                  obtain ⟨nv, hnv⟩ : ∃ z, (((F.R j).take (F.E j F.B)).drop (sgo (F.E j) F.B)).length = z := ⟨_, rfl⟩
                  rw [hnv] at q4 r0
                  rw [hnv] at HQ HRY
                  obtain ⟨seg, hseg⟩ : ∃ z, ((F.R j).take (F.E j F.B)).drop (sgo (F.E j) F.B) = z := ⟨_, rfl⟩
                  rw [hseg] at HRY
                  rw [hseg] at HQ
                  have xp := cellsAt M1.out.P 0
                  simp at xp
                  have hin2 : (j : Int) < (F.n : Int) := by omega
                  have hcn6 : F.B < F.B + 1 := by omega
                  have hcn5 : (F.B : Int) < (F.B : Int) + 1 := by omega
                  clear hY hro hy1 hy2 hym hyl hyr hrowy hvW hsw hWt q2 q3 q5 q6 hnv hseg f2 f3 f6
                  obtain ⟨hw1, hw2, hcc1⟩ := wrap_cut (c := F.B) (by omega)
                  go_upto_region 42 with fail
                  go_still_tail 18, (by kernel_rfl)
                  try refine wpStill_nil ?_
                  change wpList _ _ _ _ _ wr.drew
                  clear hw1 hw2 hcc1
                  have BD := Lib.hid (show Below wr.heap.size wr wr.drew from Below.drew (Below.refl _ _))
                  generalize wr.drew = wd at BD ⊢
                  clear r0 q1 q4 xw xp xo xc
                  go_wp2_with fail
                  refine (likeI_any seg _ _ _ (HRY.out.below BD.out) (HQ.out.below BD.out)).mono ?_
                  rintro e w7 ⟨rfl, m7, hw7⟩
                  have B7 := Lib.hid (show Below wr.heap.size wr w7 by rw [hw7]; exact bDrewN BD.out)
                  have M7 := Lib.hid (M1.out.below HF.out B7.out)
                  have xo7 : w7.cell? ⟨F.bOK, 0, none⟩ = some (.bool true) := cellsAt M7.out.OK 0
                  have fo7 := frozAt M7.out.OK
                  have zo7 := blk_lt M7.out.OK
                  clear hw7 BD HRY HQ
                  have B8 := Lib.hid (BW.out.trans ((B7.out.trans ((set_same M7.out.OK).mono B7.out.size)).mono BW.out.size))
                  clear M7
                  go_wp2_with fail
                  go_roundw
                  case rel => exact ⟨j + 1, by go_num, by omega, B8.out⟩
                  case measure => simp [intOf]; omega
                · have d0 : ((F.B : Int) == (F.B : Int)) = true := beq_self_eq_true _
                  go_wp2_with fail
                  refine (aalive_any _).mono ?_
                  rintro e w5 ⟨rfl, hb5⟩
                  have B5 := Lib.hid (bThen QB.out (bThen BW.out hb5))
                  clear hb5
                  go_wp2_with fail
                  go_ret
                  exact ⟨rfl, B5.out⟩
end Go.Proofs.Ytenpgkkefielfaa
