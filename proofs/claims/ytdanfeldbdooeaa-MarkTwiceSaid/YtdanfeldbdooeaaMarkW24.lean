/-
  WALK of the law MarkRises.
-/
import Derived.Test.YtdanfeldbdooeaaMarkW23
import Derived.Test.YtdanfeldbdooeaaMarkP2
import Derived.Deep.DeepCutAuto
set_option linter.unusedVariables false
set_option linter.unusedSimpArgs false
namespace Go.Proofs.Ytdanfeldbdooeaa
open Go.RowKit

def JRel (n : Nat) (W0 : World) (i : Value) (wr : World) : Prop := ∃ j : Nat, j ≤ n ∧ i = .int .i64 j ∧ Below W0.heap.size W0 wr
def RsRel (n : Nat) (w : World) (g : Nat) (b i : Value) (wr : World) : Prop :=
  ∃ (k : Nat) (li : List Inp) (lh : List Hld) (o : Int) (u1 u2 : Value), k ≤ n ∧ i = .int .i64 k ∧ b = .int .i64 o ∧ wr.heap[g]? = some (.cells #[u1, u2, .int .i64 o] 25 (0, 0)) ∧ Row Inp.cs 2 wr u1 li ∧ Row Hld.cs 2 wr u2 lh ∧ rightM li lh o = true ∧ (∀ x ∈ lh, wfL x.no) ∧ Below w.heap.size w wr
theorem doM_wf {li : List Inp} {lh : List Hld} {o : Int} (h : ∀ x ∈ lh, wfL x.no) (what : Int) {no : Int} (hn : wfL no) (t : Int) : ∀ x ∈ (doM li lh o what no t).lh, wfL x.no := by
  have hz : ∀ e, ∀ x ∈ (mkZ e).lh, wfL x.no := fun e x hx => by unfold mkZ at hx; cases hx
  unfold doM
  split
  · unfold setM; split; exact h; exact hz _
  split
  · unfold idleM; split; exact h; exact hz _
  split
  · unfold holdM
    split
    · split
      · intro x hx
        unfold putH at hx
        rcases List.mem_append.1 hx with hx | hx
        · exact h x (List.mem_filter.1 hx).1
        · rcases List.mem_cons.1 hx with hx | hx
          · rw [hx]; exact hn
          · exact h x (List.mem_filter.1 hx).1
      · exact hz _
    · exact hz _
  · unfold freeM
    split
    · intro x hx; exact h x (List.mem_filter.1 hx).1
    · exact hz _
theorem right_new (N : Nat) (h1 : 1 ≤ N) (h8 : N ≤ 8) : rightM (List.replicate N inZ) [] 0 = true :=
  right_mk (by simpa using h1) (by simpa using h8) (by simp) (by decide) rfl (inputs_of fun x hx => by rw [(List.mem_replicate.1 hx).2]; rfl)
set_option maxRecDepth 100000 in
set_option maxHeartbeats 8000000 in
theorem rises_walk (n : Int) (hn : wfL n) (l : List Ac) (v : Value) (w : World) (h : Row Ac.cs 3 w v l) (hw : ∀ a ∈ l, Ac.Wf a) (hlm : l.length ≤ maxLen) :
    Calls Try.prog 6 #[.int .i64 n, v] w fun e w' => e = .returned (.bool true) ∧ Below w.heap.size w w' := by
  have HR := Lib.hid h
  obtain ⟨Aa, ca, rfl, -⟩ := h
  unfold wfL at hn
  unfold maxLen at hlm
  obtain ⟨m, hm⟩ : ∃ m, l.length = m := ⟨_, rfl⟩
  have HMM := Lib.hid hm
  have HWA := Lib.hid hw
  rw [hm] at hlm HR ⊢
  clear hm hw
  obtain ⟨N, hN⟩ : ∃ N : Nat, min (max n 1) 8 = (N : Int) := ⟨(min (max n 1) 8).toNat, by omega⟩
  have hN1 : 1 ≤ N := by omega
  have hN8 : N ≤ 8 := by omega
  have HNN := Lib.hid hN
  clear hN
  have HNEW := Lib.hid (fun (q : Int) (hq : q = (N : Int)) W => mnew_yes q N hq W (by omega) (by omega))
  go_enter Try.func6, Try.ntmps6
  go_wp2_with fail
  refine (HNEW.out _ HNN.out _).mono ?_
  rintro e w1 ⟨v1, rfl, hr1, hb1⟩
  have RI := Lib.hid hr1
  obtain ⟨B1, d1, rfl, -⟩ := hr1
  rw [List.length_replicate] at RI ⊢
  have HB0 := Lib.hid hb1
  have HG1 := Lib.hid hb1.size
  clear hb1
  go_upto_region 2 with fail
  obtain ⟨W1, hW2⟩ : ∃ X, X = (w1).alloc (.cells #[.slice B1 N d1, .slice none 0 0, .int .i64 0] 25) := ⟨_, rfl⟩
  rw [← hW2]
  have hb3 : Below w1.heap.size w1 W1 := by rw [hW2]; exact bel_alloc (Below.refl _ _) _
  have Nm := Lib.hid (show W1.heap[w1.heap.size]? = some (.cells #[.slice B1 N d1, .slice none 0 0, .int .i64 0] 25 (0, 0)) by rw [hW2]; exact heap_at (w1) _ (w1.heap.size) (by simp))
  clear hW2
  have Z := Lib.hid (Row.below RI.out hb3)
  clear RI
  have RI := Z
  clear Z
  have BB4 := Lib.hid (bThen HB0.out hb3)
  clear hb3
  have Blm := Nm
  clear Nm
  go_wp2_with fail
  go_loopw [7, 32] (fun b i wr => RsRel m w w1.heap.size b i wr) (fun _ i _ => m - (intOf i).toNat)
  case atStart => exact ⟨0, _, [], 0, _, _, Nat.zero_le _, rfl, rfl, Blm.out, RI.out, Row.none_, right_new N hN1 hN8, (by simp), BB4.out⟩
  case round =>
    have hg1 : w.heap.size ≤ w1.heap.size := HG1.out
    clear Blm RI BB4
    obtain ⟨k, li, lh, o, u1, u2, hk, rfl, rfl, hblk, hri, hrh, hrm, hwf, hbel⟩ := hrel
    have RI := Lib.hid hri
    have RH := Lib.hid hrh
    have RM := Lib.hid hrm
    have WF := Lib.hid hwf
    have Blm := Lib.hid hblk
    have HB := Lib.hid hbel
    obtain ⟨D1, d1, rfl, -⟩ := hri
    obtain ⟨D2, d2, rfl, -⟩ := hrh
    clear hrm hwf hblk hbel
    by_cases hlt : k < m
    · obtain ⟨a, ha⟩ : ∃ a, l[k]? = some a := ⟨_, List.getElem?_eq_getElem (by rw [HMM.out]; exact hlt)⟩
      have haw := HWA.out a (List.mem_of_getElem? ha)
      have HAW := Lib.hid haw
      obtain ⟨b', o', c', e', hc', hb', hX⟩ := (HR.out.below HB.out).at_ ha
      injection e' with e1 e2 e3
      clear e2 haw
      subst e1 e3
      have c0 := hX 0 _ rfl
      have c1 := hX 1 _ rfl
      have c2 := hX 2 _ rfl
      clear hX ha
      obtain ⟨y0, y1, y2⟩ := a
      simp only [Nat.add_zero] at c0 c1 c2
      go_upto_region 8 with fail
      clear c0 c1 c2
      obtain ⟨W5, hW6⟩ : ∃ X, X = (wr).alloc (.cells #[.int .i64 y0, .int .i64 y1, .int .i64 y2] 27) := ⟨_, rfl⟩
      rw [← hW6]
      have hb7 : Below wr.heap.size wr W5 := by rw [hW6]; exact bel_alloc (Below.refl _ _) _
      have Na := Lib.hid (show W5.heap[wr.heap.size]? = some (.cells #[.int .i64 y0, .int .i64 y1, .int .i64 y2] 27 (0, 0)) by rw [hW6]; exact heap_at (wr) _ (wr.heap.size) (by simp))
      clear hW6
      have Z := Lib.hid (heap_below Blm.out hb7)
      clear Blm
      have Blm := Z
      clear Z
      have Z := Lib.hid (Row.below RI.out hb7)
      clear RI
      have RI := Z
      clear Z
      have Z := Lib.hid (Row.below RH.out hb7)
      clear RH
      have RH := Z
      clear Z
      have BB8 := Lib.hid (bThen HB.out hb7)
      clear hb7
      have Bla := Na
      clear Na
      by_cases h200 : 200 ≤ (k : Int)
      · have t200 : decide (200 ≤ (k : Int)) = true := by simpa using h200
        go_wp2_with fail
        refine (malive_any _).mono ?_
        rintro e w9 ⟨rfl, hb10⟩
        have Z := Lib.hid (heap_below Blm.out hb10)
        clear Blm
        have Blm := Z
        clear Z
        have Z := Lib.hid (heap_below Bla.out hb10)
        clear Bla
        have Bla := Z
        clear Z
        have Z := Lib.hid (Row.below RI.out hb10)
        clear RI
        have RI := Z
        clear Z
        have Z := Lib.hid (Row.below RH.out hb10)
        clear RH
        have RH := Z
        clear Z
        have BB11 := Lib.hid (bThen BB8.out hb10)
        clear hb10
        go_wp2_with fail
        go_ret
        exact ⟨rfl, BB11.out⟩
      · have t200 : decide (200 ≤ (k : Int)) = false := by simpa using h200
        have zm := blk_lt Blm.out
        have xm0 := cellsAt Blm.out 0
        have xm1 := cellsAt Blm.out 1
        have xm2 := cellsAt Blm.out 2
        have fm := frozAt Blm.out
        simp at xm0 xm1 xm2
        have za := blk_lt Bla.out
        have xa0 := cellsAt Bla.out 0
        have xa1 := cellsAt Bla.out 1
        have xa2 := cellsAt Bla.out 2
        have fa := frozAt Bla.out
        simp at xa0 xa1 xa2
        go_wp2_with fail
        have MK := marks_of RM.out WF.out RI.out RH.out
        have HDO := do_any li lh o y0 y1 y2 _ _ MK (by have := right_holds RM.out; omega)
        have HDR := Lib.hid (doM_right RM.out y0 y1 y2)
        have HDW := Lib.hid (doM_wf (li := li) (o := o) WF.out y0 HAW.out.2.1 y2)
        obtain ⟨R, hR⟩ : ∃ R, doM li lh o y0 y1 y2 = R := ⟨_, rfl⟩
        rw [hR] at HDO HDR HDW
        clear hR MK
        refine HDO.mono ?_
        rintro e w9 ⟨vi, vh, ui, uh, rfl, hri, hrh, hsi, hsh, hb10⟩
        have XI := Lib.hid hri
        have XH := Lib.hid hrh
        obtain ⟨B1, e1, rfl, -⟩ := hri
        obtain ⟨B2, e2, rfl, -⟩ := hrh
        obtain ⟨C1, k1, rfl, -⟩ := hsi
        obtain ⟨C2, k2, rfl, -⟩ := hsh
        clear HDO
        clear zm fm xm0 xm1 xm2 za fa xa0 xa1 xa2
        have Z := Lib.hid (heap_below Blm.out hb10)
        clear Blm
        have Blm := Z
        clear Z
        have Z := Lib.hid (heap_below Bla.out hb10)
        clear Bla
        have Bla := Z
        clear Z
        have Z := Lib.hid (Row.below RI.out hb10)
        clear RI
        have RI := Z
        clear Z
        have Z := Lib.hid (Row.below RH.out hb10)
        clear RH
        have RH := Z
        clear Z
        have BB11 := Lib.hid (bThen BB8.out hb10)
        clear hb10
        go_upto_region 10 with fail
        obtain ⟨W12, hW13⟩ : ∃ X, X = ((w9).alloc (.cells #[.slice B1 R.li.length e1, .slice B2 R.lh.length e2, .int .i64 R.o] 25)).alloc (.cells #[.slice C1 R.li.length k1, .slice C2 R.lh.length k2, .int .i64 R.o] 25) := ⟨_, rfl⟩
        rw [← hW13]
        have hb14 : Below w9.heap.size w9 W12 := by rw [hW13]; exact bel_alloc (bel_alloc (Below.refl _ _) _) _
        have Nx := Lib.hid (show W12.heap[w9.heap.size]? = some (.cells #[.slice B1 R.li.length e1, .slice B2 R.lh.length e2, .int .i64 R.o] 25 (0, 0)) by rw [hW13]; exact heap_below (heap_at (w9) _ (w9.heap.size) (by simp)) (bel_alloc (Below.refl _ _) _))
        have Ny := Lib.hid (show W12.heap[w9.heap.size + 1]? = some (.cells #[.slice C1 R.li.length k1, .slice C2 R.lh.length k2, .int .i64 R.o] 25 (0, 0)) by rw [hW13]; exact heap_at ((w9).alloc (.cells #[.slice B1 R.li.length e1, .slice B2 R.lh.length e2, .int .i64 R.o] 25)) _ (w9.heap.size + 1) (by simp))
        clear hW13
        have Z := Lib.hid (heap_below Blm.out hb14)
        clear Blm
        have Blm := Z
        clear Z
        have Z := Lib.hid (heap_below Bla.out hb14)
        clear Bla
        have Bla := Z
        clear Z
        have Z := Lib.hid (Row.below RI.out hb14)
        clear RI
        have RI := Z
        clear Z
        have Z := Lib.hid (Row.below RH.out hb14)
        clear RH
        have RH := Z
        clear Z
        have Z := Lib.hid (Row.below XI.out hb14)
        clear XI
        have XI := Z
        clear Z
        have Z := Lib.hid (Row.below XH.out hb14)
        clear XH
        have XH := Z
        clear Z
        have BB15 := Lib.hid (bThen BB11.out hb14)
        clear hb14
        have Blx := Nx
        clear Nx
        have Bly := Ny
        clear Ny
        by_cases hre : R.er = 0
        · have tr : (R.er == 0) = true := by simpa using hre
          have tr2 : decide (R.er = 0) = true := by simpa using hre
          obtain ⟨hrr, hro⟩ := HDR.out hre
          have RM2 := Lib.hid hrr
          have HRO := Lib.hid hro
          clear hrr hro hre
          have zm := blk_lt Blm.out
          have xm0 := cellsAt Blm.out 0
          have xm1 := cellsAt Blm.out 1
          have xm2 := cellsAt Blm.out 2
          have fm := frozAt Blm.out
          simp at xm0 xm1 xm2
          have zx := blk_lt Blx.out
          have xx0 := cellsAt Blx.out 0
          have xx1 := cellsAt Blx.out 1
          have xx2 := cellsAt Blx.out 2
          have fx := frozAt Blx.out
          simp at xx0 xx1 xx2
          go_upto_region 12 with fail
          have N1 := Lib.hid (setC3 Blm.out (.slice B1 R.li.length e1) (.slice B2 R.lh.length e2) (.int .i64 R.o))
          have N2 := Lib.hid (keepI Blm.out (.slice B1 R.li.length e1) (.slice B2 R.lh.length e2) (.int .i64 R.o) XI.out)
          have N3 := Lib.hid (keepH Blm.out (.slice B1 R.li.length e1) (.slice B2 R.lh.length e2) (.int .i64 R.o) XH.out)
          have N4 := Lib.hid (belC3 BB15.out hg1 (.slice B1 R.li.length e1) (.slice B2 R.lh.length e2) (.int .i64 R.o))
          clear zm fm xm0 xm1 xm2 zx fx xx0 xx1 xx2
          clear Blm RI RH XI XH RM WF BB15 Bla Blx Bly
          generalize (((W12).setCell ⟨w1.heap.size, 0, none⟩ (.slice B1 R.li.length e1)).setCell ⟨w1.heap.size, 1, none⟩ (.slice B2 R.lh.length e2)).setCell ⟨w1.heap.size, 2, none⟩ (.int .i64 R.o) = X9 at *
          have Blm := N1
          have RI := N2
          have RH := N3
          have BB15 := N4
          have RM := RM2
          have WF := HDW
          clear N1 N2 N3 N4 RM2 HDW
          rw [HRO.out] at RM Blm ⊢
          skip
          have zm := blk_lt Blm.out
          have xm0 := cellsAt Blm.out 0
          have xm1 := cellsAt Blm.out 1
          have xm2 := cellsAt Blm.out 2
          have fm := frozAt Blm.out
          simp at xm0 xm1 xm2
          go_wp2_with fail
          have MK := marks_of RM.out WF.out RI.out RH.out
          have HTL := tell_yes R.li R.lh o _ _ MK RM.out (by have := right_holds RM.out; omega) (by have := right_holds RM.out; omega)
          have HOR := out_right RM.out
          have HOB := out_back RM.out
          clear MK
          obtain ⟨t, ht⟩ : ∃ t, outM R.li R.lh o = t := ⟨_, rfl⟩
          rw [ht] at HTL HOR HOB
          obtain ⟨RT, hot, hlt3⟩ := HOR
          have RTM := Lib.hid RT
          rw [hlt3] at HTL HOB
          clear ht RT hlt3
          obtain ⟨pb, hpb⟩ : ∃ p, decide (o < t) = p := ⟨_, rfl⟩
          rw [hpb] at HTL HOB
          have HPB := Lib.hid hpb
          have HBK := Lib.hid HOB
          clear hpb HOB
          refine HTL.mono ?_
          rintro e w16 ⟨va, vb, rfl, hra, hrb, hb17⟩
          have YI := Lib.hid hra
          have YH := Lib.hid hrb
          obtain ⟨F1, f1, rfl, -⟩ := hra
          obtain ⟨F2, f2, rfl, -⟩ := hrb
          clear HTL
          clear zm fm xm0 xm1 xm2
          have Z := Lib.hid (heap_below Blm.out hb17)
          clear Blm
          have Blm := Z
          clear Z
          have Z := Lib.hid (Row.below RI.out hb17)
          clear RI
          have RI := Z
          clear Z
          have Z := Lib.hid (Row.below RH.out hb17)
          clear RH
          have RH := Z
          clear Z
          have BB18 := Lib.hid (bThen BB15.out hb17)
          clear hb17
          have hb81 : R.li.length ≤ 8 := (right_holds RTM.out).2.2.2.1
          have hb82 : R.lh.length ≤ 32 := (right_holds RTM.out).2.1
          go_upto_region 13 with fail
          obtain ⟨W19, hW20⟩ : ∃ X, X = (w16).alloc (.cells #[.slice F1 R.li.length f1, .slice F2 R.lh.length f2, .int .i64 t] 25) := ⟨_, rfl⟩
          rw [← hW20]
          have hb21 : Below w16.heap.size w16 W19 := by rw [hW20]; exact bel_alloc (Below.refl _ _) _
          have Nt := Lib.hid (show W19.heap[w16.heap.size]? = some (.cells #[.slice F1 R.li.length f1, .slice F2 R.lh.length f2, .int .i64 t] 25 (0, 0)) by rw [hW20]; exact heap_at (w16) _ (w16.heap.size) (by simp))
          clear hW20
          have Z := Lib.hid (heap_below Blm.out hb21)
          clear Blm
          have Blm := Z
          clear Z
          have Z := Lib.hid (Row.below RI.out hb21)
          clear RI
          have RI := Z
          clear Z
          have Z := Lib.hid (Row.below RH.out hb21)
          clear RH
          have RH := Z
          clear Z
          have Z := Lib.hid (Row.below YI.out hb21)
          clear YI
          have YI := Z
          clear Z
          have Z := Lib.hid (Row.below YH.out hb21)
          clear YH
          have YH := Z
          clear Z
          have BB22 := Lib.hid (bThen BB18.out hb21)
          clear hb21
          have Blt := Nt
          clear Nt
          have zm := blk_lt Blm.out
          have xm0 := cellsAt Blm.out 0
          have xm1 := cellsAt Blm.out 1
          have xm2 := cellsAt Blm.out 2
          have fm := frozAt Blm.out
          simp at xm0 xm1 xm2
          have zt := blk_lt Blt.out
          have xt0 := cellsAt Blt.out 0
          have xt1 := cellsAt Blt.out 1
          have xt2 := cellsAt Blt.out 2
          have ft := frozAt Blt.out
          simp at xt0 xt1 xt2
          have tt1 : decide (t < o) = false := by simp; omega
          have tt2 : decide (o < t) = pb := HPB.out
          have tt3 : (pb != pb) = false := by simp
          have tt4 : decide (pb = pb) = true := by simp
          go_wp2_with fail
          refine (mright_any R.li R.lh t _ _ (marks_of RTM.out WF.out YI.out YH.out) true RTM.out).mono ?_
          rintro e w23 ⟨rfl, hb24⟩
          clear zm fm xm0 xm1 xm2 zt ft xt0 xt1 xt2
          have Z := Lib.hid (heap_below Blm.out hb24)
          clear Blm
          have Blm := Z
          clear Z
          have Z := Lib.hid (heap_below Blt.out hb24)
          clear Blt
          have Blt := Z
          clear Z
          have Z := Lib.hid (Row.below RI.out hb24)
          clear RI
          have RI := Z
          clear Z
          have Z := Lib.hid (Row.below RH.out hb24)
          clear RH
          have RH := Z
          clear Z
          have Z := Lib.hid (Row.below YI.out hb24)
          clear YI
          have YI := Z
          clear Z
          have Z := Lib.hid (Row.below YH.out hb24)
          clear YH
          have YH := Z
          clear Z
          have BB25 := Lib.hid (bThen BB22.out hb24)
          clear hb24
          have zm := blk_lt Blm.out
          have xm0 := cellsAt Blm.out 0
          have xm1 := cellsAt Blm.out 1
          have xm2 := cellsAt Blm.out 2
          have fm := frozAt Blm.out
          simp at xm0 xm1 xm2
          have zt := blk_lt Blt.out
          have xt0 := cellsAt Blt.out 0
          have xt1 := cellsAt Blt.out 1
          have xt2 := cellsAt Blt.out 2
          have ft := frozAt Blt.out
          simp at xt0 xt1 xt2
          go_wp2_with fail
          clear zm fm xm0 xm1 xm2 zt ft xt0 xt1 xt2
          have zm := blk_lt Blm.out
          have xm0 := cellsAt Blm.out 0
          have xm1 := cellsAt Blm.out 1
          have xm2 := cellsAt Blm.out 2
          have fm := frozAt Blm.out
          simp at xm0 xm1 xm2
          clear zm fm xm0 xm1 xm2
          go_loopw [74] (fun i wr => JRel R.li.length w23 i wr) (fun i _ => R.li.length - (intOf i).toNat)
          case atStart => exact ⟨0, Nat.zero_le _, rfl, Below.refl _ _⟩
          case round =>
            obtain ⟨j, hj, rfl, hbj⟩ := hrel
            have BJ := Lib.hid hbj
            have Z := Lib.hid (heap_below Blm.out hbj)
            clear Blm
            have Blm := Z
            clear Z
            have Z := Lib.hid (heap_below Blt.out hbj)
            clear Blt
            have Blt := Z
            clear Z
            have Z := Lib.hid (Row.below RI.out hbj)
            clear RI
            have RI := Z
            clear Z
            have Z := Lib.hid (Row.below RH.out hbj)
            clear RH
            have RH := Z
            clear Z
            have Z := Lib.hid (Row.below YI.out hbj)
            clear YI
            have YI := Z
            clear Z
            have Z := Lib.hid (Row.below YH.out hbj)
            clear YH
            have YH := Z
            clear Z
            have BB26 := Lib.hid (bThen BB25.out hbj)
            clear hbj
            by_cases hjl : j < R.li.length
            · obtain ⟨y, hy⟩ : ∃ y, R.li[j]? = some y := ⟨_, List.getElem?_eq_getElem hjl⟩
              have hym := List.mem_of_getElem? hy
              obtain ⟨p', o', c', e', hc', hp', hX⟩ := RI.out.at_ hy
              injection e' with e1 e2 e3
              clear e2
              subst e1 e3
              have c0 := hX 0 _ rfl
              have c1 := hX 1 _ rfl
              clear hX hy
              have HYM := Lib.hid hym
              clear hym
              obtain ⟨y0, y1⟩ := y
              simp only [Nat.add_zero] at c0 c1
              cases pb with
              | false =>
                go_wp2_with fail
                go_roundw
                case rel => exact ⟨j + 1, by omega, by go_num, bel_alloc BJ.out _⟩
                case measure => simp [intOf]; omega
              | true =>
                cases y1 with
                | true =>
                  go_wp2_with fail
                  go_roundw
                  case rel => exact ⟨j + 1, by omega, by go_num, bel_alloc BJ.out _⟩
                  case measure => simp [intOf]; omega
                | false =>
                  have tk : decide (y0 < t) = false := by have := (HBK.out rfl).1 _ HYM.out rfl; simp at this; simp; omega
                  go_wp2_with fail
                  go_roundw
                  case rel => exact ⟨j + 1, by omega, by go_num, bel_alloc BJ.out _⟩
                  case measure => simp [intOf]; omega
            · obtain hjn : j = R.li.length := by omega
              clear BJ
              obtain ⟨wk, rfl⟩ : ∃ X, X = wr := ⟨_, rfl⟩
              have zm := blk_lt Blm.out
              have xm0 := cellsAt Blm.out 0
              have xm1 := cellsAt Blm.out 1
              have xm2 := cellsAt Blm.out 2
              have fm := frozAt Blm.out
              simp at xm0 xm1 xm2
              go_wp2_with fail
              clear zm fm xm0 xm1 xm2
              go_loopw [94] (fun i wr => JRel R.lh.length wk i wr) (fun i _ => R.lh.length - (intOf i).toNat)
              case atStart => exact ⟨0, Nat.zero_le _, rfl, Below.refl _ _⟩
              case round =>
                obtain ⟨j, hj, rfl, hbj⟩ := hrel
                have BJ := Lib.hid hbj
                have Z := Lib.hid (heap_below Blm.out hbj)
                clear Blm
                have Blm := Z
                clear Z
                have Z := Lib.hid (heap_below Blt.out hbj)
                clear Blt
                have Blt := Z
                clear Z
                have Z := Lib.hid (Row.below RI.out hbj)
                clear RI
                have RI := Z
                clear Z
                have Z := Lib.hid (Row.below RH.out hbj)
                clear RH
                have RH := Z
                clear Z
                have Z := Lib.hid (Row.below YI.out hbj)
                clear YI
                have YI := Z
                clear Z
                have Z := Lib.hid (Row.below YH.out hbj)
                clear YH
                have YH := Z
                clear Z
                have BB27 := Lib.hid (bThen BB26.out hbj)
                clear hbj
                by_cases hjl : j < R.lh.length
                · obtain ⟨y, hy⟩ : ∃ y, R.lh[j]? = some y := ⟨_, List.getElem?_eq_getElem hjl⟩
                  have hym := List.mem_of_getElem? hy
                  obtain ⟨p', o', c', e', hc', hp', hX⟩ := RH.out.at_ hy
                  injection e' with e1 e2 e3
                  clear e2
                  subst e1 e3
                  have c0 := hX 0 _ rfl
                  have c1 := hX 1 _ rfl
                  clear hX hy
                  have HYM := Lib.hid hym
                  clear hym
                  obtain ⟨y0, y1⟩ := y
                  simp only [Nat.add_zero] at c0 c1
                  cases pb with
                  | false =>
                    go_wp2_with fail
                    go_roundw
                    case rel => exact ⟨j + 1, by omega, by go_num, bel_alloc BJ.out _⟩
                    case measure => simp [intOf]; omega
                  | true =>
                    have tk : decide (y1 < t) = false := by have := (HBK.out rfl).2 _ HYM.out; simp at this; simp; omega
                    go_wp2_with fail
                    go_roundw
                    case rel => exact ⟨j + 1, by omega, by go_num, bel_alloc BJ.out _⟩
                    case measure => simp [intOf]; omega
                · obtain hjn : j = R.lh.length := by omega
                  clear BJ
                  have zm := blk_lt Blm.out
                  have xm0 := cellsAt Blm.out 0
                  have xm1 := cellsAt Blm.out 1
                  have xm2 := cellsAt Blm.out 2
                  have fm := frozAt Blm.out
                  simp at xm0 xm1 xm2
                  have zt := blk_lt Blt.out
                  have xt0 := cellsAt Blt.out 0
                  have xt1 := cellsAt Blt.out 1
                  have xt2 := cellsAt Blt.out 2
                  have ft := frozAt Blt.out
                  simp at xt0 xt1 xt2
                  go_wp2_with fail
                  go_roundw
                  case rel =>
                    exact ⟨k + 1, R.li, R.lh, t, _, _, by omega, by go_num, rfl, setC3 Blm.out (.slice F1 R.li.length f1) (.slice F2 R.lh.length f2) (.int .i64 t), keepI Blm.out (.slice F1 R.li.length f1) (.slice F2 R.lh.length f2) (.int .i64 t) YI.out, keepH Blm.out (.slice F1 R.li.length f1) (.slice F2 R.lh.length f2) (.int .i64 t) YH.out, RTM.out, WF.out, belC3 BB27.out hg1 (.slice F1 R.li.length f1) (.slice F2 R.lh.length f2) (.int .i64 t)⟩
                  case measure => simp [intOf]; omega
        · have tr : (R.er == 0) = false := by simpa using hre
          have tr2 : decide (R.er = 0) = false := by simpa using hre
          clear HDR HDW
          clear Bla Blx Bly XI XH
          have zm := blk_lt Blm.out
          have xm0 := cellsAt Blm.out 0
          have xm1 := cellsAt Blm.out 1
          have xm2 := cellsAt Blm.out 2
          have fm := frozAt Blm.out
          simp at xm0 xm1 xm2
          go_wp2_with fail
          have MK := marks_of RM.out WF.out RI.out RH.out
          have HTL := tell_yes li lh o _ _ MK RM.out (by have := right_holds RM.out; omega) (by have := right_holds RM.out; omega)
          have HOR := out_right RM.out
          have HOB := out_back RM.out
          clear MK
          obtain ⟨t, ht⟩ : ∃ t, outM li lh o = t := ⟨_, rfl⟩
          rw [ht] at HTL HOR HOB
          obtain ⟨RT, hot, hlt3⟩ := HOR
          have RTM := Lib.hid RT
          rw [hlt3] at HTL HOB
          clear ht RT hlt3
          obtain ⟨pb, hpb⟩ : ∃ p, decide (o < t) = p := ⟨_, rfl⟩
          rw [hpb] at HTL HOB
          have HPB := Lib.hid hpb
          have HBK := Lib.hid HOB
          clear hpb HOB
          refine HTL.mono ?_
          rintro e w16 ⟨va, vb, rfl, hra, hrb, hb17⟩
          have YI := Lib.hid hra
          have YH := Lib.hid hrb
          obtain ⟨F1, f1, rfl, -⟩ := hra
          obtain ⟨F2, f2, rfl, -⟩ := hrb
          clear HTL
          clear zm fm xm0 xm1 xm2
          have Z := Lib.hid (heap_below Blm.out hb17)
          clear Blm
          have Blm := Z
          clear Z
          have Z := Lib.hid (Row.below RI.out hb17)
          clear RI
          have RI := Z
          clear Z
          have Z := Lib.hid (Row.below RH.out hb17)
          clear RH
          have RH := Z
          clear Z
          have BB18 := Lib.hid (bThen BB15.out hb17)
          clear hb17
          have hb81 : li.length ≤ 8 := (right_holds RTM.out).2.2.2.1
          have hb82 : lh.length ≤ 32 := (right_holds RTM.out).2.1
          go_upto_region 13 with fail
          obtain ⟨W19, hW20⟩ : ∃ X, X = (w16).alloc (.cells #[.slice F1 li.length f1, .slice F2 lh.length f2, .int .i64 t] 25) := ⟨_, rfl⟩
          rw [← hW20]
          have hb21 : Below w16.heap.size w16 W19 := by rw [hW20]; exact bel_alloc (Below.refl _ _) _
          have Nt := Lib.hid (show W19.heap[w16.heap.size]? = some (.cells #[.slice F1 li.length f1, .slice F2 lh.length f2, .int .i64 t] 25 (0, 0)) by rw [hW20]; exact heap_at (w16) _ (w16.heap.size) (by simp))
          clear hW20
          have Z := Lib.hid (heap_below Blm.out hb21)
          clear Blm
          have Blm := Z
          clear Z
          have Z := Lib.hid (Row.below RI.out hb21)
          clear RI
          have RI := Z
          clear Z
          have Z := Lib.hid (Row.below RH.out hb21)
          clear RH
          have RH := Z
          clear Z
          have Z := Lib.hid (Row.below YI.out hb21)
          clear YI
          have YI := Z
          clear Z
          have Z := Lib.hid (Row.below YH.out hb21)
          clear YH
          have YH := Z
          clear Z
          have BB22 := Lib.hid (bThen BB18.out hb21)
          clear hb21
          have Blt := Nt
          clear Nt
          have zm := blk_lt Blm.out
          have xm0 := cellsAt Blm.out 0
          have xm1 := cellsAt Blm.out 1
          have xm2 := cellsAt Blm.out 2
          have fm := frozAt Blm.out
          simp at xm0 xm1 xm2
          have zt := blk_lt Blt.out
          have xt0 := cellsAt Blt.out 0
          have xt1 := cellsAt Blt.out 1
          have xt2 := cellsAt Blt.out 2
          have ft := frozAt Blt.out
          simp at xt0 xt1 xt2
          have tt1 : decide (t < o) = false := by simp; omega
          have tt2 : decide (o < t) = pb := HPB.out
          have tt3 : (pb != pb) = false := by simp
          have tt4 : decide (pb = pb) = true := by simp
          go_wp2_with fail
          refine (mright_any li lh t _ _ (marks_of RTM.out WF.out YI.out YH.out) true RTM.out).mono ?_
          rintro e w23 ⟨rfl, hb24⟩
          clear zm fm xm0 xm1 xm2 zt ft xt0 xt1 xt2
          have Z := Lib.hid (heap_below Blm.out hb24)
          clear Blm
          have Blm := Z
          clear Z
          have Z := Lib.hid (heap_below Blt.out hb24)
          clear Blt
          have Blt := Z
          clear Z
          have Z := Lib.hid (Row.below RI.out hb24)
          clear RI
          have RI := Z
          clear Z
          have Z := Lib.hid (Row.below RH.out hb24)
          clear RH
          have RH := Z
          clear Z
          have Z := Lib.hid (Row.below YI.out hb24)
          clear YI
          have YI := Z
          clear Z
          have Z := Lib.hid (Row.below YH.out hb24)
          clear YH
          have YH := Z
          clear Z
          have BB25 := Lib.hid (bThen BB22.out hb24)
          clear hb24
          have zm := blk_lt Blm.out
          have xm0 := cellsAt Blm.out 0
          have xm1 := cellsAt Blm.out 1
          have xm2 := cellsAt Blm.out 2
          have fm := frozAt Blm.out
          simp at xm0 xm1 xm2
          have zt := blk_lt Blt.out
          have xt0 := cellsAt Blt.out 0
          have xt1 := cellsAt Blt.out 1
          have xt2 := cellsAt Blt.out 2
          have ft := frozAt Blt.out
          simp at xt0 xt1 xt2
          go_wp2_with fail
          clear zm fm xm0 xm1 xm2 zt ft xt0 xt1 xt2
          have zm := blk_lt Blm.out
          have xm0 := cellsAt Blm.out 0
          have xm1 := cellsAt Blm.out 1
          have xm2 := cellsAt Blm.out 2
          have fm := frozAt Blm.out
          simp at xm0 xm1 xm2
          clear zm fm xm0 xm1 xm2
          go_loopw [74] (fun i wr => JRel li.length w23 i wr) (fun i _ => li.length - (intOf i).toNat)
          case atStart => exact ⟨0, Nat.zero_le _, rfl, Below.refl _ _⟩
          case round =>
            obtain ⟨j, hj, rfl, hbj⟩ := hrel
            have BJ := Lib.hid hbj
            have Z := Lib.hid (heap_below Blm.out hbj)
            clear Blm
            have Blm := Z
            clear Z
            have Z := Lib.hid (heap_below Blt.out hbj)
            clear Blt
            have Blt := Z
            clear Z
            have Z := Lib.hid (Row.below RI.out hbj)
            clear RI
            have RI := Z
            clear Z
            have Z := Lib.hid (Row.below RH.out hbj)
            clear RH
            have RH := Z
            clear Z
            have Z := Lib.hid (Row.below YI.out hbj)
            clear YI
            have YI := Z
            clear Z
            have Z := Lib.hid (Row.below YH.out hbj)
            clear YH
            have YH := Z
            clear Z
            have BB26 := Lib.hid (bThen BB25.out hbj)
            clear hbj
            by_cases hjl : j < li.length
            · obtain ⟨y, hy⟩ : ∃ y, li[j]? = some y := ⟨_, List.getElem?_eq_getElem hjl⟩
              have hym := List.mem_of_getElem? hy
              obtain ⟨p', o', c', e', hc', hp', hX⟩ := RI.out.at_ hy
              injection e' with e1 e2 e3
              clear e2
              subst e1 e3
              have c0 := hX 0 _ rfl
              have c1 := hX 1 _ rfl
              clear hX hy
              have HYM := Lib.hid hym
              clear hym
              obtain ⟨y0, y1⟩ := y
              simp only [Nat.add_zero] at c0 c1
              cases pb with
              | false =>
                go_wp2_with fail
                go_roundw
                case rel => exact ⟨j + 1, by omega, by go_num, bel_alloc BJ.out _⟩
                case measure => simp [intOf]; omega
              | true =>
                cases y1 with
                | true =>
                  go_wp2_with fail
                  go_roundw
                  case rel => exact ⟨j + 1, by omega, by go_num, bel_alloc BJ.out _⟩
                  case measure => simp [intOf]; omega
                | false =>
                  have tk : decide (y0 < t) = false := by have := (HBK.out rfl).1 _ HYM.out rfl; simp at this; simp; omega
                  go_wp2_with fail
                  go_roundw
                  case rel => exact ⟨j + 1, by omega, by go_num, bel_alloc BJ.out _⟩
                  case measure => simp [intOf]; omega
            · obtain hjn : j = li.length := by omega
              clear BJ
              obtain ⟨wk, rfl⟩ : ∃ X, X = wr := ⟨_, rfl⟩
              have zm := blk_lt Blm.out
              have xm0 := cellsAt Blm.out 0
              have xm1 := cellsAt Blm.out 1
              have xm2 := cellsAt Blm.out 2
              have fm := frozAt Blm.out
              simp at xm0 xm1 xm2
              go_wp2_with fail
              clear zm fm xm0 xm1 xm2
              go_loopw [94] (fun i wr => JRel lh.length wk i wr) (fun i _ => lh.length - (intOf i).toNat)
              case atStart => exact ⟨0, Nat.zero_le _, rfl, Below.refl _ _⟩
              case round =>
                obtain ⟨j, hj, rfl, hbj⟩ := hrel
                have BJ := Lib.hid hbj
                have Z := Lib.hid (heap_below Blm.out hbj)
                clear Blm
                have Blm := Z
                clear Z
                have Z := Lib.hid (heap_below Blt.out hbj)
                clear Blt
                have Blt := Z
                clear Z
                have Z := Lib.hid (Row.below RI.out hbj)
                clear RI
                have RI := Z
                clear Z
                have Z := Lib.hid (Row.below RH.out hbj)
                clear RH
                have RH := Z
                clear Z
                have Z := Lib.hid (Row.below YI.out hbj)
                clear YI
                have YI := Z
                clear Z
                have Z := Lib.hid (Row.below YH.out hbj)
                clear YH
                have YH := Z
                clear Z
                have BB27 := Lib.hid (bThen BB26.out hbj)
                clear hbj
                by_cases hjl : j < lh.length
                · obtain ⟨y, hy⟩ : ∃ y, lh[j]? = some y := ⟨_, List.getElem?_eq_getElem hjl⟩
                  have hym := List.mem_of_getElem? hy
                  obtain ⟨p', o', c', e', hc', hp', hX⟩ := RH.out.at_ hy
                  injection e' with e1 e2 e3
                  clear e2
                  subst e1 e3
                  have c0 := hX 0 _ rfl
                  have c1 := hX 1 _ rfl
                  clear hX hy
                  have HYM := Lib.hid hym
                  clear hym
                  obtain ⟨y0, y1⟩ := y
                  simp only [Nat.add_zero] at c0 c1
                  cases pb with
                  | false =>
                    go_wp2_with fail
                    go_roundw
                    case rel => exact ⟨j + 1, by omega, by go_num, bel_alloc BJ.out _⟩
                    case measure => simp [intOf]; omega
                  | true =>
                    have tk : decide (y1 < t) = false := by have := (HBK.out rfl).2 _ HYM.out; simp at this; simp; omega
                    go_wp2_with fail
                    go_roundw
                    case rel => exact ⟨j + 1, by omega, by go_num, bel_alloc BJ.out _⟩
                    case measure => simp [intOf]; omega
                · obtain hjn : j = lh.length := by omega
                  clear BJ
                  have zm := blk_lt Blm.out
                  have xm0 := cellsAt Blm.out 0
                  have xm1 := cellsAt Blm.out 1
                  have xm2 := cellsAt Blm.out 2
                  have fm := frozAt Blm.out
                  simp at xm0 xm1 xm2
                  have zt := blk_lt Blt.out
                  have xt0 := cellsAt Blt.out 0
                  have xt1 := cellsAt Blt.out 1
                  have xt2 := cellsAt Blt.out 2
                  have ft := frozAt Blt.out
                  simp at xt0 xt1 xt2
                  go_wp2_with fail
                  go_roundw
                  case rel =>
                    exact ⟨k + 1, li, lh, t, _, _, by omega, by go_num, rfl, setC3 Blm.out (.slice F1 li.length f1) (.slice F2 lh.length f2) (.int .i64 t), keepI Blm.out (.slice F1 li.length f1) (.slice F2 lh.length f2) (.int .i64 t) YI.out, keepH Blm.out (.slice F1 li.length f1) (.slice F2 lh.length f2) (.int .i64 t) YH.out, RTM.out, WF.out, belC3 BB27.out hg1 (.slice F1 li.length f1) (.slice F2 lh.length f2) (.int .i64 t)⟩
                  case measure => simp [intOf]; omega
    · obtain rfl : k = m := by omega
      go_wp2_with fail
      refine (malive_any _).mono ?_
      rintro e w5 ⟨rfl, hb6⟩
      have Z := Lib.hid (heap_below Blm.out hb6)
      clear Blm
      have Blm := Z
      clear Z
      have Z := Lib.hid (Row.below RI.out hb6)
      clear RI
      have RI := Z
      clear Z
      have Z := Lib.hid (Row.below RH.out hb6)
      clear RH
      have RH := Z
      clear Z
      have BB7 := Lib.hid (bThen HB.out hb6)
      clear hb6
      go_wp2_with fail
      go_ret
      exact ⟨rfl, BB7.out⟩
end Go.Proofs.Ytdanfeldbdooeaa
