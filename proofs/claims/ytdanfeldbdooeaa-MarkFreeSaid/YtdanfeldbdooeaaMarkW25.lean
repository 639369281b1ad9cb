/-
  WALK of the law MarkFree.
-/
import Derived.Test.YtdanfeldbdooeaaMarkW24
import Derived.Test.YtdanfeldbdooeaaMarkP3
import Derived.Deep.DeepCutAuto
set_option linter.unusedVariables false
set_option linter.unusedSimpArgs false
namespace Go.Proofs.Ytdanfeldbdooeaa
open Go.RowKit

def FrRel (n k : Nat) (t : Int) (w : World) (g : Nat) (e i : Value) (wr : World) : Prop :=
  ∃ (j : Nat) (u1 u2 : Value), j ≤ n ∧ i = .int .i64 j ∧ e = .int .i64 0 ∧ wr.heap[g]? = some (.cells #[u1, u2, .int .i64 0] 25 (0, 0)) ∧ Row Inp.cs 2 wr u1 (feL n k t j) ∧ Row Hld.cs 2 wr u2 [] ∧ Below w.heap.size w wr
set_option maxRecDepth 100000 in
set_option maxHeartbeats 4000000 in
theorem free_walk (n k t no a : Int) (hn : wfL n) (hk : wfL k) (hno : wfL no) (w : World) :
    Calls Try.prog 4 #[.int .i64 n, .int .i64 k, .int .i64 t, .int .i64 no, .int .i64 a] w fun e w' => e = .returned (.bool true) ∧ Below w.heap.size w w' := by
  unfold wfL at hn hk hno
  obtain ⟨N, hN⟩ : ∃ N : Nat, min (max n 1) 8 = (N : Int) := ⟨(min (max n 1) 8).toNat, by omega⟩
  have hN1 : 1 ≤ N := by omega
  have hN8 : N ≤ 8 := by omega
  have hr1 : k.tmod N < N := Int.tmod_lt_of_pos k (by omega)
  have hr2 : -(N : Int) < k.tmod N := Int.lt_tmod_of_pos k (by omega)
  have hw : wrap64 (k.tmod N + N) = k.tmod N + N := IntWalk.wrap64_in _ (by omega)
  obtain ⟨K, hK⟩ : ∃ K : Nat, (k.tmod N + N).tmod N = (K : Int) := ⟨((k.tmod N + N).tmod N).toNat, by have := Int.tmod_nonneg (N : Int) (show 0 ≤ k.tmod N + N by omega); omega⟩
  have hKN : K < N := by have := Int.tmod_lt_of_pos (k.tmod N + N) (show (0 : Int) < N by omega); omega
  obtain ⟨M, hM⟩ : ∃ M : Int, max no 0 = M := ⟨_, rfl⟩
  have hM0 : 0 ≤ M := by omega
  have HMW := Lib.hid (show wfL M by unfold wfL; omega)
  have HNN := Lib.hid hN
  have HKK := Lib.hid hK
  have HWW := Lib.hid hw
  have HMM := Lib.hid hM
  clear hN hK hw hM hr1 hr2 hn hk hno
  have HNEW := Lib.hid (fun W => mnew_yes (N : Int) N rfl W (by omega) (by omega))
  go_enter Try.func4, Try.ntmps4
  go_upto_region 2 with fail
  rw [HNN.out]
  have hNZ : ¬ ((N : Int) = 0) := by omega
  go_upto_region 4 with fail
  rw [HWW.out, HKK.out, HMM.out]
  go_wp2_with fail
  refine (HNEW.out _).mono ?_
  rintro e w1 ⟨v1, rfl, hr1, hb1⟩
  have RI := Lib.hid hr1
  obtain ⟨B1, d1, rfl, -⟩ := hr1
  rw [List.length_replicate] at RI ⊢
  rw [← feL_zero N K t] at RI
  have HB0 := Lib.hid hb1
  have HG1 := Lib.hid hb1.size
  clear hb1
  go_upto_region 5 with fail
  obtain ⟨W1, hW2⟩ : ∃ X, X = (w1).alloc (.cells #[.slice B1 N d1, .slice none 0 0, .int .i64 0] 25) := ⟨_, rfl⟩
  rw [← hW2]
  have hb3 : Below w1.heap.size w1 W1 := by rw [hW2]; exact bel_alloc (Below.refl _ _) _
  have Nm := Lib.hid (show W1.heap[w1.heap.size]? = some (.cells #[.slice B1 N d1, .slice none 0 0, .int .i64 0] 25 (0, 0)) by rw [hW2]; exact heap_at (w1) _ (w1.heap.size) (by simp))
  clear hW2
  have Z := Lib.hid (Row.below RI.out hb3)
  clear RI
  have RI := Z
  clear Z
  have BB4 := Lib.hid (bThen HB0.out hb3)
  clear hb3
  have Blm := Nm
  clear Nm
  go_wp2_with fail
  go_loopw [12, 42] (fun e i wr => FrRel N K t w w1.heap.size e i wr) (fun _ i _ => N - (intOf i).toNat)
  case atStart => exact ⟨0, _, _, Nat.zero_le _, rfl, rfl, Blm.out, RI.out, Row.none_, BB4.out⟩
  case round =>
    have hg1 : w.heap.size ≤ w1.heap.size := HG1.out
    clear Blm RI BB4
    obtain ⟨j, u1, u2, hj, rfl, rfl, hblk, hri, hrh, hbel⟩ := hrel
    have RI := Lib.hid hri
    have RH := Lib.hid hrh
    have Blm := Lib.hid hblk
    have HB := Lib.hid hbel
    obtain ⟨D1, d1, rfl, -⟩ := hri
    obtain ⟨D2, d2, rfl, -⟩ := hrh
    rw [feL_len] at RI Blm
    rw [List.length_nil] at RH Blm
    clear hblk hbel
    by_cases hlt : j < N
    · have FR := feL_right N K t j hN1 hN8
      have MK := marks_of (li := feL N K t j) (lh := []) (o := 0) FR (by simp) RI.out RH.out
      have zm := blk_lt Blm.out
      have xm0 := cellsAt Blm.out 0
      have xm1 := cellsAt Blm.out 1
      have xm2 := cellsAt Blm.out 2
      have fm := frozAt Blm.out
      simp at xm0 xm1 xm2
      by_cases hjk : j = K
      · have tk : ((j : Int) == (K : Int)) = true := by simp; omega
        have tk2 : decide ((j : Int) = (K : Int)) = true := by simp; omega
        have HX := mset_any _ _ _ (j : Int) t _ _ MK
        rw [step_set hN1 hN8 hlt hjk] at HX
        clear MK hjk
        go_wp2_with fail
        refine HX.mono ?_
        rintro e w5 ⟨vi, vh, rfl, hri, hrh, hb6⟩
        have XI := Lib.hid hri
        have XH := Lib.hid hrh
        obtain ⟨B1, e1, rfl, -⟩ := hri
        obtain ⟨B2, e2, rfl, -⟩ := hrh
        clear HX
        rw [feL_len] at XI ⊢
        rw [List.length_nil] at XH ⊢
        clear zm fm xm0 xm1 xm2
        have Z := Lib.hid (heap_below Blm.out hb6)
        clear Blm
        have Blm := Z
        clear Z
        have Z := Lib.hid (Row.below RI.out hb6)
        clear RI
        have RI := Z
        clear Z
        have Z := Lib.hid (Row.below RH.out hb6)
        clear RH
        have RH := Z
        clear Z
        have BB7 := Lib.hid (bThen HB.out hb6)
        clear hb6
        have zm := blk_lt Blm.out
        have xm0 := cellsAt Blm.out 0
        have xm1 := cellsAt Blm.out 1
        have xm2 := cellsAt Blm.out 2
        have fm := frozAt Blm.out
        simp at xm0 xm1 xm2
        go_upto_region 15 with fail
        have N1 := Lib.hid (setC3 Blm.out (.slice B1 N e1) (.slice B2 0 e2) (.int .i64 0))
        have N2 := Lib.hid (keepI Blm.out (.slice B1 N e1) (.slice B2 0 e2) (.int .i64 0) XI.out)
        have N3 := Lib.hid (keepH Blm.out (.slice B1 N e1) (.slice B2 0 e2) (.int .i64 0) XH.out)
        have N4 := Lib.hid (belC3 BB7.out hg1 (.slice B1 N e1) (.slice B2 0 e2) (.int .i64 0))
        clear zm fm xm0 xm1 xm2
        clear Blm RI RH XI XH BB7
        generalize (((w5).setCell ⟨w1.heap.size, 0, none⟩ (.slice B1 N e1)).setCell ⟨w1.heap.size, 1, none⟩ (.slice B2 0 e2)).setCell ⟨w1.heap.size, 2, none⟩ (.int .i64 0) = X8 at *
        have Blm := N1
        have RI := N2
        have RH := N3
        have BB7 := N4
        clear N1 N2 N3 N4
        go_wp2_with fail
        go_roundw
        case rel => exact ⟨j + 1, _, _, by omega, by go_num, rfl, Blm.out, RI.out, RH.out, BB7.out⟩
        case measure => simp [intOf]; omega
      · have tk : ((j : Int) == (K : Int)) = false := by simp; omega
        have tk2 : decide ((j : Int) = (K : Int)) = false := by simp; omega
        by_cases hj2 : j % 2 = 0
        · have tm : ((j : Int).tmod 2 == 0) = true := by rw [Int.tmod_eq_emod_of_nonneg (by omega)]; simp; omega
          have tm2 : (((j : Int) % 2) == 0) = true := by simp; omega
          have tm3 : decide ((j : Int).tmod 2 = 0) = true := by rw [Int.tmod_eq_emod_of_nonneg (by omega)]; simp; omega
          have HX := mset_any _ _ _ (j : Int) 1099511627776 _ _ MK
          rw [step_fin hN1 hN8 hlt hjk hj2] at HX
          clear MK
          go_wp2_with fail
          refine HX.mono ?_
          rintro e w5 ⟨vi, vh, rfl, hri, hrh, hb6⟩
          have XI := Lib.hid hri
          have XH := Lib.hid hrh
          obtain ⟨B1, e1, rfl, -⟩ := hri
          obtain ⟨B2, e2, rfl, -⟩ := hrh
          clear HX
          rw [feL_len] at XI ⊢
          rw [List.length_nil] at XH ⊢
          clear zm fm xm0 xm1 xm2
          have Z := Lib.hid (heap_below Blm.out hb6)
          clear Blm
          have Blm := Z
          clear Z
          have Z := Lib.hid (Row.below RI.out hb6)
          clear RI
          have RI := Z
          clear Z
          have Z := Lib.hid (Row.below RH.out hb6)
          clear RH
          have RH := Z
          clear Z
          have BB7 := Lib.hid (bThen HB.out hb6)
          clear hb6
          have zm := blk_lt Blm.out
          have xm0 := cellsAt Blm.out 0
          have xm1 := cellsAt Blm.out 1
          have xm2 := cellsAt Blm.out 2
          have fm := frozAt Blm.out
          simp at xm0 xm1 xm2
          go_upto_region 15 with fail
          have N1 := Lib.hid (setC3 Blm.out (.slice B1 N e1) (.slice B2 0 e2) (.int .i64 0))
          have N2 := Lib.hid (keepI Blm.out (.slice B1 N e1) (.slice B2 0 e2) (.int .i64 0) XI.out)
          have N3 := Lib.hid (keepH Blm.out (.slice B1 N e1) (.slice B2 0 e2) (.int .i64 0) XH.out)
          have N4 := Lib.hid (belC3 BB7.out hg1 (.slice B1 N e1) (.slice B2 0 e2) (.int .i64 0))
          clear zm fm xm0 xm1 xm2
          clear Blm RI RH XI XH BB7
          generalize (((w5).setCell ⟨w1.heap.size, 0, none⟩ (.slice B1 N e1)).setCell ⟨w1.heap.size, 1, none⟩ (.slice B2 0 e2)).setCell ⟨w1.heap.size, 2, none⟩ (.int .i64 0) = X8 at *
          have Blm := N1
          have RI := N2
          have RH := N3
          have BB7 := N4
          clear N1 N2 N3 N4
          go_wp2_with fail
          go_roundw
          case rel => exact ⟨j + 1, _, _, by omega, by go_num, rfl, Blm.out, RI.out, RH.out, BB7.out⟩
          case measure => simp [intOf]; omega
        · have tm : ((j : Int).tmod 2 == 0) = false := by rw [Int.tmod_eq_emod_of_nonneg (by omega)]; simp; omega
          have tm2 : (((j : Int) % 2) == 0) = false := by simp; omega
          have tm3 : decide ((j : Int).tmod 2 = 0) = false := by rw [Int.tmod_eq_emod_of_nonneg (by omega)]; simp; omega
          have HX := midle_any _ _ _ (j : Int) _ _ MK
          rw [step_idle hN1 hN8 hlt hjk hj2] at HX
          clear MK
          go_wp2_with fail
          refine HX.mono ?_
          rintro e w5 ⟨vi, vh, rfl, hri, hrh, hb6⟩
          have XI := Lib.hid hri
          have XH := Lib.hid hrh
          obtain ⟨B1, e1, rfl, -⟩ := hri
          obtain ⟨B2, e2, rfl, -⟩ := hrh
          clear HX
          rw [feL_len] at XI ⊢
          rw [List.length_nil] at XH ⊢
          clear zm fm xm0 xm1 xm2
          have Z := Lib.hid (heap_below Blm.out hb6)
          clear Blm
          have Blm := Z
          clear Z
          have Z := Lib.hid (Row.below RI.out hb6)
          clear RI
          have RI := Z
          clear Z
          have Z := Lib.hid (Row.below RH.out hb6)
          clear RH
          have RH := Z
          clear Z
          have BB7 := Lib.hid (bThen HB.out hb6)
          clear hb6
          have zm := blk_lt Blm.out
          have xm0 := cellsAt Blm.out 0
          have xm1 := cellsAt Blm.out 1
          have xm2 := cellsAt Blm.out 2
          have fm := frozAt Blm.out
          simp at xm0 xm1 xm2
          go_upto_region 15 with fail
          have N1 := Lib.hid (setC3 Blm.out (.slice B1 N e1) (.slice B2 0 e2) (.int .i64 0))
          have N2 := Lib.hid (keepI Blm.out (.slice B1 N e1) (.slice B2 0 e2) (.int .i64 0) XI.out)
          have N3 := Lib.hid (keepH Blm.out (.slice B1 N e1) (.slice B2 0 e2) (.int .i64 0) XH.out)
          have N4 := Lib.hid (belC3 BB7.out hg1 (.slice B1 N e1) (.slice B2 0 e2) (.int .i64 0))
          clear zm fm xm0 xm1 xm2
          clear Blm RI RH XI XH BB7
          generalize (((w5).setCell ⟨w1.heap.size, 0, none⟩ (.slice B1 N e1)).setCell ⟨w1.heap.size, 1, none⟩ (.slice B2 0 e2)).setCell ⟨w1.heap.size, 2, none⟩ (.int .i64 0) = X8 at *
          have Blm := N1
          have RI := N2
          have RH := N3
          have BB7 := N4
          clear N1 N2 N3 N4
          go_wp2_with fail
          go_roundw
          case rel => exact ⟨j + 1, _, _, by omega, by go_num, rfl, Blm.out, RI.out, RH.out, BB7.out⟩
          case measure => simp [intOf]; omega
    · obtain rfl : j = N := by omega
      have FR := Lib.hid (feL_right j K t j hN1 hN8)
      have HF2 := Lib.hid (hold_free FR.out hM0 a)
      have MK := marks_of FR.out (by simp) RI.out RH.out
      have HX := hold_any _ _ _ M a _ _ MK
      rw [HF2.out.1] at HX
      clear MK
      have zm := blk_lt Blm.out
      have xm0 := cellsAt Blm.out 0
      have xm1 := cellsAt Blm.out 1
      have xm2 := cellsAt Blm.out 2
      have fm := frozAt Blm.out
      simp at xm0 xm1 xm2
      go_wp2_with fail
      refine HX.mono ?_
      rintro e w5 ⟨vi, vh, rfl, hri, hrh, hb6⟩
      have XI := Lib.hid hri
      have XH := Lib.hid hrh
      obtain ⟨B1, e1, rfl, -⟩ := hri
      obtain ⟨B2, e2, rfl, -⟩ := hrh
      clear HX
      rw [feL_len] at XI ⊢
      rw [show ([⟨M, clampT a⟩] : List Hld).length = 1 from rfl] at XH ⊢
      clear zm fm xm0 xm1 xm2
      have Z := Lib.hid (heap_below Blm.out hb6)
      clear Blm
      have Blm := Z
      clear Z
      have Z := Lib.hid (Row.below RI.out hb6)
      clear RI
      have RI := Z
      clear Z
      have Z := Lib.hid (Row.below RH.out hb6)
      clear RH
      have RH := Z
      clear Z
      have BB7 := Lib.hid (bThen HB.out hb6)
      clear hb6
      have zm := blk_lt Blm.out
      have xm0 := cellsAt Blm.out 0
      have xm1 := cellsAt Blm.out 1
      have xm2 := cellsAt Blm.out 2
      have fm := frozAt Blm.out
      simp at xm0 xm1 xm2
      go_upto_region 17 with fail
      have N1 := Lib.hid (setC3 Blm.out (.slice B1 j e1) (.slice B2 1 e2) (.int .i64 0))
      have N2 := Lib.hid (keepI Blm.out (.slice B1 j e1) (.slice B2 1 e2) (.int .i64 0) XI.out)
      have N3 := Lib.hid (keepH Blm.out (.slice B1 j e1) (.slice B2 1 e2) (.int .i64 0) XH.out)
      have N4 := Lib.hid (belC3 BB7.out hg1 (.slice B1 j e1) (.slice B2 1 e2) (.int .i64 0))
      clear zm fm xm0 xm1 xm2
      clear Blm RI RH XI XH BB7
      generalize (((w5).setCell ⟨w1.heap.size, 0, none⟩ (.slice B1 j e1)).setCell ⟨w1.heap.size, 1, none⟩ (.slice B2 1 e2)).setCell ⟨w1.heap.size, 2, none⟩ (.int .i64 0) = X8 at *
      have Blm := N1
      have RI := N2
      have RH := N3
      have BB7 := N4
      clear N1 N2 N3 N4
      have FR2 := Lib.hid (show rightM (feL j K t j) [⟨M, clampT a⟩] 0 = true from right_put FR.out hM0 a (by show (1 : Nat) ≤ 32; omega))
      have MK := marks_of FR2.out (by intro x hx; simp at hx; rw [hx]; exact HMW.out) RI.out RH.out
      have HX := free_any _ _ _ M _ _ MK
      rw [HF2.out.2] at HX
      clear MK
      have zm := blk_lt Blm.out
      have xm0 := cellsAt Blm.out 0
      have xm1 := cellsAt Blm.out 1
      have xm2 := cellsAt Blm.out 2
      have fm := frozAt Blm.out
      simp at xm0 xm1 xm2
      go_wp2_with fail
      refine HX.mono ?_
      rintro e w9 ⟨vi, vh, rfl, hri, hrh, hb10⟩
      have XI := Lib.hid hri
      have XH := Lib.hid hrh
      obtain ⟨B1, e1, rfl, -⟩ := hri
      obtain ⟨B2, e2, rfl, -⟩ := hrh
      clear HX
      rw [feL_len] at XI ⊢
      rw [List.length_nil] at XH ⊢
      clear zm fm xm0 xm1 xm2
      have Z := Lib.hid (heap_below Blm.out hb10)
      clear Blm
      have Blm := Z
      clear Z
      have Z := Lib.hid (Row.below RI.out hb10)
      clear RI
      have RI := Z
      clear Z
      have Z := Lib.hid (Row.below RH.out hb10)
      clear RH
      have RH := Z
      clear Z
      have BB11 := Lib.hid (bThen BB7.out hb10)
      clear hb10
      have zm := blk_lt Blm.out
      have xm0 := cellsAt Blm.out 0
      have xm1 := cellsAt Blm.out 1
      have xm2 := cellsAt Blm.out 2
      have fm := frozAt Blm.out
      simp at xm0 xm1 xm2
      go_upto_region 18 with fail
      have N1 := Lib.hid (setC3 Blm.out (.slice B1 j e1) (.slice B2 0 e2) (.int .i64 0))
      have N2 := Lib.hid (keepI Blm.out (.slice B1 j e1) (.slice B2 0 e2) (.int .i64 0) XI.out)
      have N3 := Lib.hid (keepH Blm.out (.slice B1 j e1) (.slice B2 0 e2) (.int .i64 0) XH.out)
      have N4 := Lib.hid (belC3 BB11.out hg1 (.slice B1 j e1) (.slice B2 0 e2) (.int .i64 0))
      clear zm fm xm0 xm1 xm2
      clear Blm RI RH XI XH BB11
      generalize (((w9).setCell ⟨w1.heap.size, 0, none⟩ (.slice B1 j e1)).setCell ⟨w1.heap.size, 1, none⟩ (.slice B2 0 e2)).setCell ⟨w1.heap.size, 2, none⟩ (.int .i64 0) = X12 at *
      have Blm := N1
      have RI := N2
      have RH := N3
      have BB11 := N4
      clear N1 N2 N3 N4
      have MK := marks_of FR.out (by simp) RI.out RH.out
      have HX := tell_yes _ _ _ _ _ MK FR.out (by rw [feL_len]; omega) (by simp)
      rw [fe_told t hKN] at HX
      clear MK
      have zm := blk_lt Blm.out
      have xm0 := cellsAt Blm.out 0
      have xm1 := cellsAt Blm.out 1
      have xm2 := cellsAt Blm.out 2
      have fm := frozAt Blm.out
      simp at xm0 xm1 xm2
      go_wp2_with fail
      obtain ⟨TT, hTT⟩ : ∃ T, clampT t = T := ⟨_, rfl⟩
      rw [hTT] at HX
      have HTT := Lib.hid hTT
      clear hTT
      refine HX.mono ?_
      rintro e w13 ⟨vi, vh, rfl, hri, hrh, hb14⟩
      obtain ⟨B1, e1, rfl, -⟩ := hri
      obtain ⟨B2, e2, rfl, -⟩ := hrh
      rw [feL_len, List.length_nil]
      clear HX
      clear zm fm xm0 xm1 xm2
      have Z := Lib.hid (heap_below Blm.out hb14)
      clear Blm
      have Blm := Z
      clear Z
      have Z := Lib.hid (Row.below RI.out hb14)
      clear RI
      have RI := Z
      clear Z
      have Z := Lib.hid (Row.below RH.out hb14)
      clear RH
      have RH := Z
      clear Z
      have BB15 := Lib.hid (bThen BB11.out hb14)
      clear hb14
      go_upto_region 19 with fail
      obtain ⟨W16, hW17⟩ : ∃ X, X = (w13).alloc (.cells #[.slice B1 j e1, .slice B2 0 e2, .int .i64 TT] 25) := ⟨_, rfl⟩
      rw [← hW17]
      have hb18 : Below w13.heap.size w13 W16 := by rw [hW17]; exact bel_alloc (Below.refl _ _) _
      have Nx := Lib.hid (show W16.heap[w13.heap.size]? = some (.cells #[.slice B1 j e1, .slice B2 0 e2, .int .i64 TT] 25 (0, 0)) by rw [hW17]; exact heap_at (w13) _ (w13.heap.size) (by simp))
      clear hW17
      have Z := Lib.hid (heap_below Blm.out hb18)
      clear Blm
      have Blm := Z
      clear Z
      have Z := Lib.hid (Row.below RI.out hb18)
      clear RI
      have RI := Z
      clear Z
      have Z := Lib.hid (Row.below RH.out hb18)
      clear RH
      have RH := Z
      clear Z
      have BB19 := Lib.hid (bThen BB15.out hb18)
      clear hb18
      have Blx := Nx
      clear Nx
      have MK := marks_of FR.out (by simp) RI.out RH.out
      have HX := mset_any _ _ _ (K : Int) 1099511627776 _ _ MK
      rw [fe_last t hN1 hN8 hKN] at HX
      clear MK
      have zm := blk_lt Blm.out
      have xm0 := cellsAt Blm.out 0
      have xm1 := cellsAt Blm.out 1
      have xm2 := cellsAt Blm.out 2
      have fm := frozAt Blm.out
      simp at xm0 xm1 xm2
      go_wp2_with fail
      refine HX.mono ?_
      rintro e w20 ⟨vi, vh, rfl, hri, hrh, hb21⟩
      have YI := Lib.hid hri
      have YH := Lib.hid hrh
      obtain ⟨C1, k1, rfl, -⟩ := hri
      obtain ⟨C2, k2, rfl, -⟩ := hrh
      rw [List.length_set, feL_len] at YI ⊢
      rw [List.length_nil] at YH ⊢
      clear HX
      clear zm fm xm0 xm1 xm2
      have Z := Lib.hid (heap_below Blm.out hb21)
      clear Blm
      have Blm := Z
      clear Z
      have Z := Lib.hid (heap_below Blx.out hb21)
      clear Blx
      have Blx := Z
      clear Z
      have Z := Lib.hid (Row.below RI.out hb21)
      clear RI
      have RI := Z
      clear Z
      have Z := Lib.hid (Row.below RH.out hb21)
      clear RH
      have RH := Z
      clear Z
      have BB22 := Lib.hid (bThen BB19.out hb21)
      clear hb21
      go_upto_region 20 with fail
      obtain ⟨W23, hW24⟩ : ∃ X, X = (w20).alloc (.cells #[.slice C1 j k1, .slice C2 0 k2, .int .i64 0] 25) := ⟨_, rfl⟩
      rw [← hW24]
      have hb25 : Below w20.heap.size w20 W23 := by rw [hW24]; exact bel_alloc (Below.refl _ _) _
      have Ny := Lib.hid (show W23.heap[w20.heap.size]? = some (.cells #[.slice C1 j k1, .slice C2 0 k2, .int .i64 0] 25 (0, 0)) by rw [hW24]; exact heap_at (w20) _ (w20.heap.size) (by simp))
      clear hW24
      have Z := Lib.hid (heap_below Blm.out hb25)
      clear Blm
      have Blm := Z
      clear Z
      have Z := Lib.hid (heap_below Blx.out hb25)
      clear Blx
      have Blx := Z
      clear Z
      have Z := Lib.hid (Row.below RI.out hb25)
      clear RI
      have RI := Z
      clear Z
      have Z := Lib.hid (Row.below RH.out hb25)
      clear RH
      have RH := Z
      clear Z
      have Z := Lib.hid (Row.below YI.out hb25)
      clear YI
      have YI := Z
      clear Z
      have Z := Lib.hid (Row.below YH.out hb25)
      clear YH
      have YH := Z
      clear Z
      have BB26 := Lib.hid (bThen BB22.out hb25)
      clear hb25
      have Bly := Ny
      clear Ny
      have FR3 := Lib.hid (right_set FR.out K (m := 1099511627776) (by decide) false)
      have MK := marks_of FR3.out (by simp) YI.out YH.out
      have HX := tell_yes _ _ _ _ _ MK FR3.out (by rw [List.length_set, feL_len]; omega) (by simp)
      rw [fe_end t hKN] at HX
      clear MK
      have zy := blk_lt Bly.out
      have xy0 := cellsAt Bly.out 0
      have xy1 := cellsAt Bly.out 1
      have xy2 := cellsAt Bly.out 2
      have fy := frozAt Bly.out
      simp at xy0 xy1 xy2
      go_wp2_with fail
      refine HX.mono ?_
      rintro e w27 ⟨vi, vh, rfl, hri, hrh, hb28⟩
      obtain ⟨G1, g1, rfl, -⟩ := hri
      obtain ⟨G2, g2, rfl, -⟩ := hrh
      rw [List.length_set, feL_len, List.length_nil]
      clear HX
      clear zy fy xy0 xy1 xy2
      have Z := Lib.hid (heap_below Blm.out hb28)
      clear Blm
      have Blm := Z
      clear Z
      have Z := Lib.hid (heap_below Blx.out hb28)
      clear Blx
      have Blx := Z
      clear Z
      have Z := Lib.hid (heap_below Bly.out hb28)
      clear Bly
      have Bly := Z
      clear Z
      have Z := Lib.hid (Row.below RI.out hb28)
      clear RI
      have RI := Z
      clear Z
      have Z := Lib.hid (Row.below RH.out hb28)
      clear RH
      have RH := Z
      clear Z
      have Z := Lib.hid (Row.below YI.out hb28)
      clear YI
      have YI := Z
      clear Z
      have Z := Lib.hid (Row.below YH.out hb28)
      clear YH
      have YH := Z
      clear Z
      have BB29 := Lib.hid (bThen BB26.out hb28)
      clear hb28
      go_upto_region 21 with fail
      obtain ⟨W30, hW31⟩ : ∃ X, X = (w27).alloc (.cells #[.slice G1 j g1, .slice G2 0 g2, .int .i64 1099511627776] 25) := ⟨_, rfl⟩
      rw [← hW31]
      have hb32 : Below w27.heap.size w27 W30 := by rw [hW31]; exact bel_alloc (Below.refl _ _) _
      have Nk := Lib.hid (show W30.heap[w27.heap.size]? = some (.cells #[.slice G1 j g1, .slice G2 0 g2, .int .i64 1099511627776] 25 (0, 0)) by rw [hW31]; exact heap_at (w27) _ (w27.heap.size) (by simp))
      clear hW31
      have Z := Lib.hid (heap_below Blm.out hb32)
      clear Blm
      have Blm := Z
      clear Z
      have Z := Lib.hid (heap_below Blx.out hb32)
      clear Blx
      have Blx := Z
      clear Z
      have Z := Lib.hid (heap_below Bly.out hb32)
      clear Bly
      have Bly := Z
      clear Z
      have Z := Lib.hid (Row.below RI.out hb32)
      clear RI
      have RI := Z
      clear Z
      have Z := Lib.hid (Row.below RH.out hb32)
      clear RH
      have RH := Z
      clear Z
      have Z := Lib.hid (Row.below YI.out hb32)
      clear YI
      have YI := Z
      clear Z
      have Z := Lib.hid (Row.below YH.out hb32)
      clear YH
      have YH := Z
      clear Z
      have BB33 := Lib.hid (bThen BB29.out hb32)
      clear hb32
      have Blk := Nk
      clear Nk
      go_wp2_with fail
      refine (malive_any _).mono ?_
      rintro e w34 ⟨rfl, hb35⟩
      have Z := Lib.hid (heap_below Blm.out hb35)
      clear Blm
      have Blm := Z
      clear Z
      have Z := Lib.hid (heap_below Blx.out hb35)
      clear Blx
      have Blx := Z
      clear Z
      have Z := Lib.hid (heap_below Bly.out hb35)
      clear Bly
      have Bly := Z
      clear Z
      have Z := Lib.hid (heap_below Blk.out hb35)
      clear Blk
      have Blk := Z
      clear Z
      have Z := Lib.hid (Row.below RI.out hb35)
      clear RI
      have RI := Z
      clear Z
      have Z := Lib.hid (Row.below RH.out hb35)
      clear RH
      have RH := Z
      clear Z
      have Z := Lib.hid (Row.below YI.out hb35)
      clear YI
      have YI := Z
      clear Z
      have Z := Lib.hid (Row.below YH.out hb35)
      clear YH
      have YH := Z
      clear Z
      have BB36 := Lib.hid (bThen BB33.out hb35)
      clear hb35
      have tt : (TT == min (max t 0) 1099511627776) = true := by rw [← HTT.out]; unfold clampT; simp
      have tt2 : decide (TT = min (max t 0) 1099511627776) = true := by rw [← HTT.out]; unfold clampT; simp
      go_wp2_with fail
      go_ret
      exact ⟨rfl, BB36.out⟩
end Go.Proofs.Ytdanfeldbdooeaa
