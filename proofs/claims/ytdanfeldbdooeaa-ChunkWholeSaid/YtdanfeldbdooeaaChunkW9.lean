/-
  WALKS of layer 20: Take of the program.
-/
import Derived.Test.YtdanfeldbdooeaaChunkP1
import Derived.Deep.RegionLaw
import Derived.BigQuiet
import Derived.Deep.DeepCutAuto
set_option linter.unusedVariables false
set_option linter.unusedSimpArgs false
namespace Go.Proofs.Ytdanfeldbdooeaa
open Go.RowKit

def TkRel (w : World) (g co : Int) (m : Nat) (L : List Ck) (px : Value) (W : World) : Prop :=
  ∃ (A5 : Option Addr) (c5 : Nat), px = .pointer (some ⟨w.heap.size, 2, none⟩) ∧ W.heap[w.heap.size]? = some (.cells #[.int .i64 g, .int .i64 co, .slice A5 (m + 1) c5] 52 (0, 0)) ∧ W.heap[w.heap.size + 1 + 1]? = some (.cells #[.int .i64 0, .int .i64 0, .slice none 0 0] 52 (0, 0)) ∧ W.ownsRow (w.heap.size + 3) 56 4 (.slice A5 (m + 1) c5) (m + 1) (L.flatMap Ck.cs) ∧ Below w.heap.size w W
theorem tk_end {w w9 : World} {g co : Int} {m c5 cp : Nat} {A5 A : Option Addr} {L : List Ck} (X1 : w9.heap[w.heap.size]? = some (.cells #[.int .i64 g, .int .i64 co, .slice A m cp] 52 (0, 0))) (X2 : w9.heap[w.heap.size + 1 + 1]? = some (.cells #[.int .i64 0, .int .i64 0, .slice none 0 0] 52 (0, 0)))
    (X3 : w9.ownsRow (w.heap.size + 3) 56 4 (.slice A5 (m + 1) c5) (m + 1) (L.flatMap Ck.cs)) (X4 : Below w.heap.size w w9) : TkRel w g co m L (.pointer (some ⟨w.heap.size, 2, none⟩)) (w9.setCell ⟨w.heap.size, 2, none⟩ (.slice A5 (m + 1) c5)) :=
  ⟨A5, c5, rfl, by simpa using blk_set X1 2 _, (Below.heap_setCell _ _ _ _ (by show w.heap.size + 1 + 1 ≠ w.heap.size; omega)).trans X2, own_set X3 (by show w.heap.size < _; omega) _, X4.setCell (Nat.le_refl _) _⟩
set_option maxRecDepth 100000 in
set_option maxHeartbeats 4000000 in
theorem ctake_any (g o : Int) (l : List Ck) (c : Ck) (hc : c.Ok) (v : Value) (w : World) (hv : Row Ck.cs 4 w v l) (hl : l.length ≤ 900000) (hok : ∀ x ∈ l, x.Ok) :
    Calls Try.prog 29 #[.agg #[.int .i64 g, .int .i64 o, v], .agg #[.int .i64 c.g, .int .i64 c.no, .int .i64 c.of_, .string c.b]] w (TkTo (takeC g o l c) w) := by
  have R1 := Lib.hid hv
  obtain ⟨q, hq⟩ : ∃ q, rightG g o l = q := ⟨_, rfl⟩
  have HQ := Lib.hid hq
  have HR := Lib.hid (fun W (h : Row Ck.cs 4 W v l) => cright_any g o l v W h (by omega) hok q hq)
  obtain ⟨bm, hbm⟩ : ∃ q, mayB c = q := ⟨_, rfl⟩
  have HBM := Lib.hid hbm
  have HP := Lib.hid (fun W => may_any c W bm hbm hc.1 hc.2)
  have HFI := Lib.hid (fun W (hs : srtC l) (h : Row Ck.cs 4 W v l) => find_any l g o c.no v W h (by omega) hs)
  have HCL := Lib.hid (fun W (h : Row Ck.cs 4 W v l) => cloneC_any l v W h (by omega))
  obtain ⟨A, cp, rfl, -⟩ := hv
  have EQ := eqCk
  have HOC := Lib.hid hc
  obtain ⟨R, hR⟩ : ∃ R, takeC g o l c = R := ⟨_, rfl⟩
  have HO := Lib.hid hR
  rw [hR]
  obtain ⟨m, hm⟩ : ∃ m, l.length = m := ⟨_, rfl⟩
  rw [hm] at R1 HR HFI HCL hl ⊢
  have Hm := Lib.hid hm
  clear hq hbm hR hm hok hc
  obtain ⟨cg, cn, co, cb⟩ := c
  simp only at HP HFI ⊢
  go_enter Try.func29, Try.ntmps29
  unfold TkTo
  go_wp2_with fail
  obtain ⟨W1, hW2⟩ : ∃ X, X = (((w).alloc (.cells #[.int .i64 g, .int .i64 o, .slice A m cp] 52)).alloc (.cells #[.int .i64 cg, .int .i64 cn, .int .i64 co, .string cb] 56)).alloc (.cells #[.int .i64 0, .int .i64 0, .slice none 0 0] 52) := ⟨_, rfl⟩
  rw [← hW2]
  have hb3 : Below w.heap.size w W1 := by rw [hW2]; exact bel_alloc (bel_alloc (bel_alloc (Below.refl _ _) _) _) _
  have Ns := Lib.hid (show W1.heap[w.heap.size]? = some (.cells #[.int .i64 g, .int .i64 o, .slice A m cp] 52 (0, 0)) by rw [hW2]; exact heap_below (heap_at (w) _ (w.heap.size) (by simp)) (bel_alloc (bel_alloc (Below.refl _ _) _) _))
  have Nc := Lib.hid (show W1.heap[w.heap.size + 1]? = some (.cells #[.int .i64 cg, .int .i64 cn, .int .i64 co, .string cb] 56 (0, 0)) by rw [hW2]; exact heap_below (heap_at ((w).alloc (.cells #[.int .i64 g, .int .i64 o, .slice A m cp] 52)) _ (w.heap.size + 1) (by simp)) (bel_alloc (Below.refl _ _) _))
  have Nz := Lib.hid (show W1.heap[w.heap.size + 1 + 1]? = some (.cells #[.int .i64 0, .int .i64 0, .slice none 0 0] 52 (0, 0)) by rw [hW2]; exact heap_at (((w).alloc (.cells #[.int .i64 g, .int .i64 o, .slice A m cp] 52)).alloc (.cells #[.int .i64 cg, .int .i64 cn, .int .i64 co, .string cb] 56)) _ (w.heap.size + 1 + 1) (by simp))
  clear hW2
  have BB4 := Lib.hid hb3
  clear hb3
  have Bls := Ns
  clear Ns
  have Blc := Nc
  clear Nc
  have Blz := Nz
  clear Nz
  have R2 := Lib.hid (R1.out.below BB4.out)
  refine (HR.out _ R2.out).mono ?_
  rintro e w5 ⟨rfl, hb6⟩
  have Z := Lib.hid (heap_below Bls.out hb6)
  clear Bls
  have Bls := Z
  clear Z
  have Z := Lib.hid (heap_below Blc.out hb6)
  clear Blc
  have Blc := Z
  clear Z
  have Z := Lib.hid (heap_below Blz.out hb6)
  clear Blz
  have Blz := Z
  clear Z
  have Z := Lib.hid (Row.below R2.out hb6)
  clear R2
  have R2 := Z
  clear Z
  have BB7 := Lib.hid (bThen BB4.out hb6)
  clear hb6
  have zs := blk_lt Bls.out
  have xs0 := cellsAt Bls.out 0
  have xs1 := cellsAt Bls.out 1
  have xs2 := cellsAt Bls.out 2
  have fs := frozAt Bls.out
  simp at xs0 xs1 xs2
  have zc := blk_lt Blc.out
  have xc0 := cellsAt Blc.out 0
  have xc1 := cellsAt Blc.out 1
  have xc2 := cellsAt Blc.out 2
  have xc3 := cellsAt Blc.out 3
  have fc := frozAt Blc.out
  simp at xc0 xc1 xc2 xc3
  have zz := blk_lt Blz.out
  have xz0 := cellsAt Blz.out 0
  have xz1 := cellsAt Blz.out 1
  have xz2 := cellsAt Blz.out 2
  have fz := frozAt Blz.out
  simp at xz0 xz1 xz2
  cases q with
  | false =>
    have HOF := HO.out
    unfold takeC at HOF
    rw [if_neg (by rw [HQ.out]; simp)] at HOF
    subst HOF
    go_wp2_with fail
    exact bodyPost_ret (v := .tuple #[.agg #[.int .i64 0, .int .i64 0, .slice none 0 0], .int .i64 1]) (by simp [results, Try.results29, go_sem, xz0, xz1, xz2]) rfl ⟨_, rfl, Row.none_, belG3 BB7.out (by omega) _ _ _⟩
  | true =>
    have HSR := Lib.hid (show srtC l by have h := HQ.out; unfold rightG at h; simp only [Bool.and_eq_true] at h; exact srtC_of h.2)
    go_wp2_with fail
    refine (HP.out _).mono ?_
    rintro e w8 ⟨rfl, hb9⟩
    clear zs fs xs0 xs1 xs2 zc fc xc0 xc1 xc2 xc3 zz fz xz0 xz1 xz2
    have Z := Lib.hid (heap_below Bls.out hb9)
    clear Bls
    have Bls := Z
    clear Z
    have Z := Lib.hid (heap_below Blc.out hb9)
    clear Blc
    have Blc := Z
    clear Z
    have Z := Lib.hid (heap_below Blz.out hb9)
    clear Blz
    have Blz := Z
    clear Z
    have Z := Lib.hid (Row.below R2.out hb9)
    clear R2
    have R2 := Z
    clear Z
    have BB10 := Lib.hid (bThen BB7.out hb9)
    clear hb9
    have zs := blk_lt Bls.out
    have xs0 := cellsAt Bls.out 0
    have xs1 := cellsAt Bls.out 1
    have xs2 := cellsAt Bls.out 2
    have fs := frozAt Bls.out
    simp at xs0 xs1 xs2
    have zc := blk_lt Blc.out
    have xc0 := cellsAt Blc.out 0
    have xc1 := cellsAt Blc.out 1
    have xc2 := cellsAt Blc.out 2
    have xc3 := cellsAt Blc.out 3
    have fc := frozAt Blc.out
    simp at xc0 xc1 xc2 xc3
    have zz := blk_lt Blz.out
    have xz0 := cellsAt Blz.out 0
    have xz1 := cellsAt Blz.out 1
    have xz2 := cellsAt Blz.out 2
    have fz := frozAt Blz.out
    simp at xz0 xz1 xz2
    cases bm with
    | false =>
      have HOF := HO.out
      unfold takeC at HOF
      rw [if_pos HQ.out, if_neg (by unfold fitB; rw [HBM.out]; simp)] at HOF
      subst HOF
      go_wp2_with fail
      exact bodyPost_ret (v := .tuple #[.agg #[.int .i64 0, .int .i64 0, .slice none 0 0], .int .i64 200]) (by simp [results, Try.results29, go_sem, xz0, xz1, xz2]) rfl ⟨_, rfl, Row.none_, belG3 BB10.out (by omega) _ _ _⟩
    | true =>
      by_cases hg1 : cg = g
      · have tg : (cg == g) = true := by simpa using hg1
        have tg2 : decide (cg = g) = true := by simpa using hg1
        have tg3 : (cg != g) = false := by simpa using hg1
        by_cases ho0 : o = 0
        · have t0 : (o == 0) = true := by simpa using ho0
          have t02 : decide (o = 0) = true := by simpa using ho0
          have t03 : (o != 0) = false := by simpa using ho0
          have HFT := Lib.hid (show fitB g o ⟨cg, cn, co, cb⟩ = true by unfold fitB; rw [HBM.out]; simp; exact ⟨hg1, .inl ho0⟩)
          clear hg1 ho0
          go_wp2_with fail
          refine (HFI.out _ HSR.out R2.out).mono ?_
          rintro e w11 ⟨i, hi, rfl, ha, hb12⟩
          clear zs fs xs0 xs1 xs2 zc fc xc0 xc1 xc2 xc3 zz fz xz0 xz1 xz2
          have Z := Lib.hid (heap_below Bls.out hb12)
          clear Bls
          have Bls := Z
          clear Z
          have Z := Lib.hid (heap_below Blc.out hb12)
          clear Blc
          have Blc := Z
          clear Z
          have Z := Lib.hid (heap_below Blz.out hb12)
          clear Blz
          have Blz := Z
          clear Z
          have Z := Lib.hid (Row.below R2.out hb12)
          clear R2
          have R2 := Z
          clear Z
          have BB13 := Lib.hid (bThen BB10.out hb12)
          clear hb12
          have HAT := Lib.hid ha
          clear ha
          obtain ⟨f, hf⟩ : ∃ f, fndC l i cn = f := ⟨_, rfl⟩
          rw [hf]
          have HF := Lib.hid hf
          clear hf
          rw [Hm.out] at hi
          have zs := blk_lt Bls.out
          have xs0 := cellsAt Bls.out 0
          have xs1 := cellsAt Bls.out 1
          have xs2 := cellsAt Bls.out 2
          have fs := frozAt Bls.out
          simp at xs0 xs1 xs2
          have zc := blk_lt Blc.out
          have xc0 := cellsAt Blc.out 0
          have xc1 := cellsAt Blc.out 1
          have xc2 := cellsAt Blc.out 2
          have xc3 := cellsAt Blc.out 3
          have fc := frozAt Blc.out
          simp at xc0 xc1 xc2 xc3
          have zz := blk_lt Blz.out
          have xz0 := cellsAt Blz.out 0
          have xz1 := cellsAt Blz.out 1
          have xz2 := cellsAt Blz.out 2
          have fz := frozAt Blz.out
          simp at xz0 xz1 xz2
          cases f with
          | true =>
            obtain ⟨x, hx, -, hget⟩ := getC_yes HSR.out HF.out
            have HG := Lib.hid hget
            have hil := (List.getElem?_eq_some_iff.1 hx).1
            rw [Hm.out] at hil
            have hii : (i : Int) < (m : Int) := by omega
            have hi0 : (0 : Int) ≤ (i : Int) := by omega
            obtain ⟨b', o', c', e', hc', hb', hX⟩ := R2.out.at_ hx
            injection e' with e1 e2 e3
            clear e2 hget
            subst e1 e3
            have k0 := hX 0 _ rfl
            have k1 := hX 1 _ rfl
            have k2 := hX 2 _ rfl
            have k3 := hX 3 _ rfl
            clear hX hx
            obtain ⟨qe, hqe⟩ : ∃ q, ckEq x ⟨cg, cn, co, cb⟩ = q := ⟨_, rfl⟩
            have HQE := Lib.hid hqe
            have EQ2 := fun W => (EQ W x ⟨cg, cn, co, cb⟩).trans (by rw [hqe])
            clear hqe EQ
            obtain ⟨xg, xn, xo, xb⟩ := x
            simp only [Nat.add_zero] at k0 k1 k2 k3 EQ2
            clear zs fs xs0 xs1 xs2 zc fc xc0 xc1 xc2 xc3 zz fz xz0 xz1 xz2
            have zs := blk_lt Bls.out
            have xs0 := cellsAt Bls.out 0
            have xs1 := cellsAt Bls.out 1
            have xs2 := cellsAt Bls.out 2
            have fs := frozAt Bls.out
            simp at xs0 xs1 xs2
            have zc := blk_lt Blc.out
            have xc0 := cellsAt Blc.out 0
            have xc1 := cellsAt Blc.out 1
            have xc2 := cellsAt Blc.out 2
            have xc3 := cellsAt Blc.out 3
            have fc := frozAt Blc.out
            simp at xc0 xc1 xc2 xc3
            have zz := blk_lt Blz.out
            have xz0 := cellsAt Blz.out 0
            have xz1 := cellsAt Blz.out 1
            have xz2 := cellsAt Blz.out 2
            have fz := frozAt Blz.out
            simp at xz0 xz1 xz2
            go_wp2_with fail
            go_quiet (fail)
            obtain ⟨W14, hW15⟩ : ∃ X, X = w11.drewN nq := ⟨_, rfl⟩
            rw [← hW15]
            have hb16 : Below w11.heap.size w11 W14 := by rw [hW15]; exact bDrewN (Below.refl _ _)
            clear hW15
            clear zs fs xs0 xs1 xs2 zc fc xc0 xc1 xc2 xc3 zz fz xz0 xz1 xz2
            have Z := Lib.hid (heap_below Bls.out hb16)
            clear Bls
            have Bls := Z
            clear Z
            have Z := Lib.hid (heap_below Blc.out hb16)
            clear Blc
            have Blc := Z
            clear Z
            have Z := Lib.hid (heap_below Blz.out hb16)
            clear Blz
            have Blz := Z
            clear Z
            have Z := Lib.hid (Row.below R2.out hb16)
            clear R2
            have R2 := Z
            clear Z
            have BB17 := Lib.hid (bThen BB13.out hb16)
            clear hb16
            clear k0 k1 k2 k3
            have zs := blk_lt Bls.out
            have xs0 := cellsAt Bls.out 0
            have xs1 := cellsAt Bls.out 1
            have xs2 := cellsAt Bls.out 2
            have fs := frozAt Bls.out
            simp at xs0 xs1 xs2
            have zc := blk_lt Blc.out
            have xc0 := cellsAt Blc.out 0
            have xc1 := cellsAt Blc.out 1
            have xc2 := cellsAt Blc.out 2
            have xc3 := cellsAt Blc.out 3
            have fc := frozAt Blc.out
            simp at xc0 xc1 xc2 xc3
            have zz := blk_lt Blz.out
            have xz0 := cellsAt Blz.out 0
            have xz1 := cellsAt Blz.out 1
            have xz2 := cellsAt Blz.out 2
            have fz := frozAt Blz.out
            simp at xz0 xz1 xz2
            cases qe with
            | true =>
              have HOF := HO.out
              unfold takeC at HOF
              rw [if_pos HQ.out, if_pos HFT.out, HG.out] at HOF
              simp only at HOF
              rw [if_pos HQE.out] at HOF
              subst HOF
              go_wp2_with fail
              exact bodyPost_ret (v := .tuple #[.agg #[.int .i64 g, .int .i64 o, .slice (some ⟨b', o', none⟩) m cp], .int .i64 0]) (by simp [results, Try.results29, go_sem, xz0, xz1, xz2]) rfl ⟨_, rfl, R1.out.below (belG3 BB17.out (by omega) _ _ _), belG3 BB17.out (by omega) _ _ _⟩
            | false =>
              have HOF := HO.out
              unfold takeC at HOF
              rw [if_pos HQ.out, if_pos HFT.out, HG.out] at HOF
              simp only at HOF
              rw [if_neg (by rw [HQE.out]; simp)] at HOF
              subst HOF
              go_wp2_with fail
              exact bodyPost_ret (v := .tuple #[.agg #[.int .i64 0, .int .i64 0, .slice none 0 0], .int .i64 200]) (by simp [results, Try.results29, go_sem, xz0, xz1, xz2]) rfl ⟨_, rfl, Row.none_, belG3 BB17.out (by omega) _ _ _⟩
          | false =>
            have HOF := HO.out
            unfold takeC at HOF
            rw [if_pos HQ.out, if_pos HFT.out, getC_no HAT.out HSR.out HF.out, putC_eq HAT.out] at HOF
            simp only at HOF
            subst HOF
            clear EQ
            go_wp2_with fail
            go_quiet (fail)
            obtain ⟨W14, hW15⟩ : ∃ X, X = w11.drewN nq := ⟨_, rfl⟩
            rw [← hW15]
            have hb16 : Below w11.heap.size w11 W14 := by rw [hW15]; exact bDrewN (Below.refl _ _)
            clear hW15
            clear zs fs xs0 xs1 xs2 zc fc xc0 xc1 xc2 xc3 zz fz xz0 xz1 xz2
            have Z := Lib.hid (heap_below Bls.out hb16)
            clear Bls
            have Bls := Z
            clear Z
            have Z := Lib.hid (heap_below Blc.out hb16)
            clear Blc
            have Blc := Z
            clear Z
            have Z := Lib.hid (heap_below Blz.out hb16)
            clear Blz
            have Blz := Z
            clear Z
            have Z := Lib.hid (Row.below R2.out hb16)
            clear R2
            have R2 := Z
            clear Z
            have BB17 := Lib.hid (bThen BB13.out hb16)
            clear hb16
            have zs := blk_lt Bls.out
            have xs0 := cellsAt Bls.out 0
            have xs1 := cellsAt Bls.out 1
            have xs2 := cellsAt Bls.out 2
            have fs := frozAt Bls.out
            simp at xs0 xs1 xs2
            have zc := blk_lt Blc.out
            have xc0 := cellsAt Blc.out 0
            have xc1 := cellsAt Blc.out 1
            have xc2 := cellsAt Blc.out 2
            have xc3 := cellsAt Blc.out 3
            have fc := frozAt Blc.out
            simp at xc0 xc1 xc2 xc3
            have zz := blk_lt Blz.out
            have xz0 := cellsAt Blz.out 0
            have xz1 := cellsAt Blz.out 1
            have xz2 := cellsAt Blz.out 2
            have fz := frozAt Blz.out
            simp at xz0 xz1 xz2
            go_upto_region 11 with fail
            have N1 := Lib.hid (blk_set Bls.out 1 (.int .i64 co))
            have N2 := Lib.hid ((Below.heap_setCell W14 ⟨w.heap.size, 1, none⟩ (.int .i64 co) (w.heap.size + 1) (by show w.heap.size + 1 ≠ w.heap.size; omega)).trans Blc.out)
            have N3 := Lib.hid ((Below.heap_setCell W14 ⟨w.heap.size, 1, none⟩ (.int .i64 co) (w.heap.size + 1 + 1) (by show w.heap.size + 1 + 1 ≠ w.heap.size; omega)).trans Blz.out)
            have N4 := Lib.hid (BB17.out.setCell (p := ⟨w.heap.size, 1, none⟩) (Nat.le_refl _) (.int .i64 co))
            clear zs fs xs0 xs1 xs2 zc fc xc0 xc1 xc2 xc3 zz fz xz0 xz1 xz2
            clear Bls Blc Blz R2 BB17
            generalize W14.setCell ⟨w.heap.size, 1, none⟩ (.int .i64 co) = XX at *
            have Bls := Lib.hid (show XX.heap[w.heap.size]? = some (.cells #[.int .i64 g, .int .i64 co, .slice A m cp] 52 (0, 0)) by simpa using N1.out)
            have Blc := N2
            have Blz := N3
            have BXX := N4
            have R2 := Lib.hid (R1.out.below BXX.out)
            clear N1 N2 N3 N4
            have zs := blk_lt Bls.out
            have xs0 := cellsAt Bls.out 0
            have xs1 := cellsAt Bls.out 1
            have xs2 := cellsAt Bls.out 2
            have fs := frozAt Bls.out
            simp at xs0 xs1 xs2
            have zc := blk_lt Blc.out
            have xc0 := cellsAt Blc.out 0
            have xc1 := cellsAt Blc.out 1
            have xc2 := cellsAt Blc.out 2
            have xc3 := cellsAt Blc.out 3
            have fc := frozAt Blc.out
            simp at xc0 xc1 xc2 xc3
            have zz := blk_lt Blz.out
            have xz0 := cellsAt Blz.out 0
            have xz1 := cellsAt Blz.out 1
            have xz2 := cellsAt Blz.out 2
            have fz := frozAt Blz.out
            simp at xz0 xz1 xz2
            have hszx : w.heap.size + 3 ≤ XX.heap.size := by have := blk_lt Blz.out; omega
            have HCX : Hid (∀ W' : World, Below XX.heap.size XX W' → Calls Try.prog 64 #[.slice A m cp] W' (fun e w' => ∃ A4 c4, e = .returned (.slice A4 m c4) ∧ w'.ownsRow W'.heap.size 56 4 (.slice A4 m c4) m (l.flatMap Ck.cs) ∧ Below W'.heap.size W' w' ∧ Below XX.heap.size XX w')) := Lib.hid (fun W' hB => by
              refine (HCL.out W' (R2.out.below hB)).mono ?_
              rintro e w4 ⟨v4, rfl, hown, hb4⟩
              rw [Hm.out] at hown
              obtain ⟨A4, c4, rfl⟩ := own_slice hown
              exact ⟨A4, c4, rfl, hown, hb4, bThen hB hb4⟩)
            have HIN : Hid (∀ (W' w4 : World) (A4 : Option Addr) (c4 B : Nat) (own : w4.ownsRow B 56 4 (.slice A4 m c4) m (l.flatMap Ck.cs)) (hB : XX.heap.size ≤ B) (hW : Below w4.heap.size w4 W') (hX4 : Below XX.heap.size XX w4) (vb : Nat) (TX : TypeId) (hv : W'.heap[vb]? = some (.cells #[.int .i64 cg, .int .i64 cn, .int .i64 co, .string cb] TX (0, 0))) (hne : vb < B ∨ w4.heap.size ≤ vb), Calls Try.prog 63 #[.slice A4 m c4, .int .i64 i, .slice (some ⟨vb, 0, none⟩) 1 1] W' (fun e w9 => ∃ A5 c5, e = .returned (.slice A5 (m + 1) c5) ∧ w9.heap[w.heap.size]? = some (.cells #[.int .i64 g, .int .i64 co, .slice A m cp] 52 (0, 0)) ∧ w9.heap[w.heap.size + 1 + 1]? = some (.cells #[.int .i64 0, .int .i64 0, .slice none 0 0] 52 (0, 0)) ∧ w9.ownsRow (w.heap.size + 3) 56 4 (.slice A5 (m + 1) c5) (m + 1) ((l.take i ++ (⟨cg, cn, co, cb⟩ : Ck) :: l.drop i).flatMap Ck.cs) ∧ Below w.heap.size w w9)) := Lib.hid (fun W' w4 A4 c4 B own hB hW hX4 vb TX hv hne => by
              have own2 := own_base (own_below own hW) (show w.heap.size + 3 ≤ B by omega)
              rw [← Hm.out] at own2 ⊢
              have hsz : w.heap.size + 3 ≤ W'.heap.size := by have h1 := hX4.size; have h2 := hW.size; omega
              refine (insC_at (w := w) own2 (bThen (bThen BXX.out hX4) hW) hsz i (by rw [Hm.out]; exact hi) (by rw [Hm.out]; omega) ⟨cg, cn, co, cb⟩ vb TX (fun e => by have h := own.lt vb (by rw [← Hm.out]; exact e); omega) hv).mono ?_
              rintro e w9 ⟨A5, c5, rfl, hk, h5, hb5⟩
              exact ⟨A5, c5, rfl, by rw [Hm.out]; exact hk _ _ (by omega) (heap_below (heap_below Bls.out hX4) hW), hk _ _ (by omega) (heap_below (heap_below Blz.out hX4) hW), h5, hb5⟩)
            clear HCL
            go_cut [69] (fun px W => TkRel w g co m (l.take i ++ (⟨cg, cn, co, cb⟩ : Ck) :: l.drop i) px W)
            case first =>
              go_region_law (first | (go_simp; go_at_call 64; refine (HCX.out _ (by first | exact Below.refl _ _ | exact Below.drew (Below.refl _ _) | exact bel_alloc (Below.refl _ _) _ | exact Below.drew (bel_alloc (Below.refl _ _) _) | exact bel_alloc (Below.drew (Below.refl _ _)) _)).mono ?_; rintro e w4 ⟨A4, c4, rfl, hown4, hb4, hX4⟩; have Y2 := heap_below Blc.out hX4; have Y1 := heap_below Bls.out hX4; have zc4 := blk_lt Y2; have zs4 := blk_lt Y1; have yc0 := cellsAt Y2 0; have yc1 := cellsAt Y2 1; have yc2 := cellsAt Y2 2; have yc3 := cellsAt Y2 3; simp at yc0 yc1 yc2 yc3; (first | (have hvb := heap_below (W := (XX.alloc (.cells #[.int .i64 cg, .int .i64 cn, .int .i64 co, .string cb] 56)).drew) (show _ = _ from heap_at _ _ _ rfl) hb4) | (have hvb := heap_below (W := XX.alloc (.cells #[.int .i64 cg, .int .i64 cn, .int .i64 co, .string cb] 56)) (show _ = _ from heap_at _ _ _ rfl) hb4) | (have hvb := heap_below (W := XX.drew.alloc (.cells #[.int .i64 cg, .int .i64 cn, .int .i64 co, .string cb] 56)) (show _ = _ from heap_at _ _ _ rfl) hb4) | skip)) | (go_simp; go_at_call 63; refine (HIN.out _ w4 A4 c4 _ hown4 (by first | exact Nat.le_refl _ | simp) (by first | exact Below.refl _ _ | exact Below.drew (Below.refl _ _) | exact bel_alloc (Below.refl _ _) _ | exact Below.drew (bel_alloc (Below.refl _ _) _) | exact bel_alloc (Below.drew (Below.refl _ _)) _) hX4 _ _ (by first | exact heap_at _ _ _ rfl | exact hvb) (by first | exact .inr (Nat.le_refl _) | exact .inl (by simp))).mono ?_; rintro e w9 ⟨A5, c5, rfl, X1, X2, X3, X4⟩; have y0 := cellsAt X1 0; have y1 := cellsAt X1 1; have y2 := cellsAt X1 2; have fy := frozAt X1; have zy := blk_lt X1; simp at y0 y1 y2))
              all_goals
                go_wp2_with fail
                go_meet
                with_reducible exact tk_end X1 X2 X3 X4
            case rest =>
              clear zs fs xs0 xs1 xs2 zc fc xc0 xc1 xc2 xc3 zz fz xz0 xz1 xz2
              obtain ⟨A5, c5, rfl, P1, P2, P3, P4⟩ := hcut
              clear Bls Blc Blz BXX R2 hszx HCX HIN
              have Bls := Lib.hid P1
              have Blz := Lib.hid P2
              have OH := Lib.hid P3
              have BXX := Lib.hid P4
              clear P1 P2 P3 P4
              have zs := blk_lt Bls.out
              have xs0 := cellsAt Bls.out 0
              have xs1 := cellsAt Bls.out 1
              have xs2 := cellsAt Bls.out 2
              have fs := frozAt Bls.out
              simp at xs0 xs1 xs2
              have zz := blk_lt Blz.out
              have xz0 := cellsAt Blz.out 0
              have xz1 := cellsAt Blz.out 1
              have xz2 := cellsAt Blz.out 2
              have fz := frozAt Blz.out
              simp at xz0 xz1 xz2
              go_wp2_with fail
              have Ez := Lib.hid (setG3 Blz.out (.int .i64 g) (.int .i64 co) (.slice A5 (m + 1) c5))
              have BE := Lib.hid (belG3 BXX.out (g := w.heap.size + 1 + 1) (by omega) (.int .i64 g) (.int .i64 co) (.slice A5 (m + 1) c5))
              have O9 := Lib.hid (ownG3 OH.out (g := w.heap.size + 1 + 1) (by omega) (.int .i64 g) (.int .i64 co) (.slice A5 (m + 1) c5))
              clear zs fs xs0 xs1 xs2 zz fz xz0 xz1 xz2
              generalize (((wc).setCell ⟨w.heap.size + 1 + 1, 0, none⟩ (.int .i64 g)).setCell ⟨w.heap.size + 1 + 1, 1, none⟩ (.int .i64 co)).setCell ⟨w.heap.size + 1 + 1, 2, none⟩ (.slice A5 (m + 1) c5) = W9 at *
              have e0 := cellsAt Ez.out 0
              have e1 := cellsAt Ez.out 1
              have e2 := cellsAt Ez.out 2
              simp at e0 e1 e2
              exact bodyPost_ret (v := .tuple #[.agg #[.int .i64 g, .int .i64 co, .slice A5 (m + 1) c5], .int .i64 0]) (by simp [results, Try.results29, go_sem, e0, e1, e2]) rfl ⟨_, rfl, Row.of_own Ck.cs_len O9.out (by simp only [List.length_append, List.length_cons, List.length_take, List.length_drop, Hm.out]; omega), BE.out⟩
        · have t0 : (o == 0) = false := by simpa using ho0
          have t02 : decide (o = 0) = false := by simpa using ho0
          have t03 : (o != 0) = true := by simpa using ho0
          by_cases ho1 : o = co
          · have t1 : (o == co) = true := by simpa using ho1
            have t12 : decide (o = co) = true := by simpa using ho1
            have t13 : (o != co) = false := by simpa using ho1
            have HO1 := Lib.hid ho1
            clear ho1
            have HFT := Lib.hid (show fitB g o ⟨cg, cn, co, cb⟩ = true by unfold fitB; rw [HBM.out]; simp; exact ⟨hg1, .inr HO1.out⟩)
            clear hg1 ho0
            go_wp2_with fail
            refine (HFI.out _ HSR.out R2.out).mono ?_
            rintro e w11 ⟨i, hi, rfl, ha, hb12⟩
            clear zs fs xs0 xs1 xs2 zc fc xc0 xc1 xc2 xc3 zz fz xz0 xz1 xz2
            have Z := Lib.hid (heap_below Bls.out hb12)
            clear Bls
            have Bls := Z
            clear Z
            have Z := Lib.hid (heap_below Blc.out hb12)
            clear Blc
            have Blc := Z
            clear Z
            have Z := Lib.hid (heap_below Blz.out hb12)
            clear Blz
            have Blz := Z
            clear Z
            have Z := Lib.hid (Row.below R2.out hb12)
            clear R2
            have R2 := Z
            clear Z
            have BB13 := Lib.hid (bThen BB10.out hb12)
            clear hb12
            have HAT := Lib.hid ha
            clear ha
            obtain ⟨f, hf⟩ : ∃ f, fndC l i cn = f := ⟨_, rfl⟩
            rw [hf]
            have HF := Lib.hid hf
            clear hf
            rw [Hm.out] at hi
            have zs := blk_lt Bls.out
            have xs0 := cellsAt Bls.out 0
            have xs1 := cellsAt Bls.out 1
            have xs2 := cellsAt Bls.out 2
            have fs := frozAt Bls.out
            simp at xs0 xs1 xs2
            have zc := blk_lt Blc.out
            have xc0 := cellsAt Blc.out 0
            have xc1 := cellsAt Blc.out 1
            have xc2 := cellsAt Blc.out 2
            have xc3 := cellsAt Blc.out 3
            have fc := frozAt Blc.out
            simp at xc0 xc1 xc2 xc3
            have zz := blk_lt Blz.out
            have xz0 := cellsAt Blz.out 0
            have xz1 := cellsAt Blz.out 1
            have xz2 := cellsAt Blz.out 2
            have fz := frozAt Blz.out
            simp at xz0 xz1 xz2
            cases f with
            | true =>
              obtain ⟨x, hx, -, hget⟩ := getC_yes HSR.out HF.out
              have HG := Lib.hid hget
              have hil := (List.getElem?_eq_some_iff.1 hx).1
              rw [Hm.out] at hil
              have hii : (i : Int) < (m : Int) := by omega
              have hi0 : (0 : Int) ≤ (i : Int) := by omega
              obtain ⟨b', o', c', e', hc', hb', hX⟩ := R2.out.at_ hx
              injection e' with e1 e2 e3
              clear e2 hget
              subst e1 e3
              have k0 := hX 0 _ rfl
              have k1 := hX 1 _ rfl
              have k2 := hX 2 _ rfl
              have k3 := hX 3 _ rfl
              clear hX hx
              obtain ⟨qe, hqe⟩ : ∃ q, ckEq x ⟨cg, cn, co, cb⟩ = q := ⟨_, rfl⟩
              have HQE := Lib.hid hqe
              have EQ2 := fun W => (EQ W x ⟨cg, cn, co, cb⟩).trans (by rw [hqe])
              clear hqe EQ
              obtain ⟨xg, xn, xo, xb⟩ := x
              simp only [Nat.add_zero] at k0 k1 k2 k3 EQ2
              clear zs fs xs0 xs1 xs2 zc fc xc0 xc1 xc2 xc3 zz fz xz0 xz1 xz2
              have zs := blk_lt Bls.out
              have xs0 := cellsAt Bls.out 0
              have xs1 := cellsAt Bls.out 1
              have xs2 := cellsAt Bls.out 2
              have fs := frozAt Bls.out
              simp at xs0 xs1 xs2
              have zc := blk_lt Blc.out
              have xc0 := cellsAt Blc.out 0
              have xc1 := cellsAt Blc.out 1
              have xc2 := cellsAt Blc.out 2
              have xc3 := cellsAt Blc.out 3
              have fc := frozAt Blc.out
              simp at xc0 xc1 xc2 xc3
              have zz := blk_lt Blz.out
              have xz0 := cellsAt Blz.out 0
              have xz1 := cellsAt Blz.out 1
              have xz2 := cellsAt Blz.out 2
              have fz := frozAt Blz.out
              simp at xz0 xz1 xz2
              go_wp2_with fail
              go_quiet (fail)
              obtain ⟨W14, hW15⟩ : ∃ X, X = w11.drewN nq := ⟨_, rfl⟩
              rw [← hW15]
              have hb16 : Below w11.heap.size w11 W14 := by rw [hW15]; exact bDrewN (Below.refl _ _)
              clear hW15
              clear zs fs xs0 xs1 xs2 zc fc xc0 xc1 xc2 xc3 zz fz xz0 xz1 xz2
              have Z := Lib.hid (heap_below Bls.out hb16)
              clear Bls
              have Bls := Z
              clear Z
              have Z := Lib.hid (heap_below Blc.out hb16)
              clear Blc
              have Blc := Z
              clear Z
              have Z := Lib.hid (heap_below Blz.out hb16)
              clear Blz
              have Blz := Z
              clear Z
              have Z := Lib.hid (Row.below R2.out hb16)
              clear R2
              have R2 := Z
              clear Z
              have BB17 := Lib.hid (bThen BB13.out hb16)
              clear hb16
              clear k0 k1 k2 k3
              have zs := blk_lt Bls.out
              have xs0 := cellsAt Bls.out 0
              have xs1 := cellsAt Bls.out 1
              have xs2 := cellsAt Bls.out 2
              have fs := frozAt Bls.out
              simp at xs0 xs1 xs2
              have zc := blk_lt Blc.out
              have xc0 := cellsAt Blc.out 0
              have xc1 := cellsAt Blc.out 1
              have xc2 := cellsAt Blc.out 2
              have xc3 := cellsAt Blc.out 3
              have fc := frozAt Blc.out
              simp at xc0 xc1 xc2 xc3
              have zz := blk_lt Blz.out
              have xz0 := cellsAt Blz.out 0
              have xz1 := cellsAt Blz.out 1
              have xz2 := cellsAt Blz.out 2
              have fz := frozAt Blz.out
              simp at xz0 xz1 xz2
              cases qe with
              | true =>
                have HOF := HO.out
                unfold takeC at HOF
                rw [if_pos HQ.out, if_pos HFT.out, HG.out] at HOF
                simp only at HOF
                rw [if_pos HQE.out] at HOF
                subst HOF
                go_wp2_with fail
                exact bodyPost_ret (v := .tuple #[.agg #[.int .i64 g, .int .i64 o, .slice (some ⟨b', o', none⟩) m cp], .int .i64 0]) (by simp [results, Try.results29, go_sem, xz0, xz1, xz2]) rfl ⟨_, rfl, R1.out.below (belG3 BB17.out (by omega) _ _ _), belG3 BB17.out (by omega) _ _ _⟩
              | false =>
                have HOF := HO.out
                unfold takeC at HOF
                rw [if_pos HQ.out, if_pos HFT.out, HG.out] at HOF
                simp only at HOF
                rw [if_neg (by rw [HQE.out]; simp)] at HOF
                subst HOF
                go_wp2_with fail
                exact bodyPost_ret (v := .tuple #[.agg #[.int .i64 0, .int .i64 0, .slice none 0 0], .int .i64 200]) (by simp [results, Try.results29, go_sem, xz0, xz1, xz2]) rfl ⟨_, rfl, Row.none_, belG3 BB17.out (by omega) _ _ _⟩
            | false =>
              have HOF := HO.out
              unfold takeC at HOF
              rw [if_pos HQ.out, if_pos HFT.out, getC_no HAT.out HSR.out HF.out, putC_eq HAT.out] at HOF
              simp only at HOF
              subst HOF
              clear EQ
              go_wp2_with fail
              go_quiet (fail)
              obtain ⟨W14, hW15⟩ : ∃ X, X = w11.drewN nq := ⟨_, rfl⟩
              rw [← hW15]
              have hb16 : Below w11.heap.size w11 W14 := by rw [hW15]; exact bDrewN (Below.refl _ _)
              clear hW15
              clear zs fs xs0 xs1 xs2 zc fc xc0 xc1 xc2 xc3 zz fz xz0 xz1 xz2
              have Z := Lib.hid (heap_below Bls.out hb16)
              clear Bls
              have Bls := Z
              clear Z
              have Z := Lib.hid (heap_below Blc.out hb16)
              clear Blc
              have Blc := Z
              clear Z
              have Z := Lib.hid (heap_below Blz.out hb16)
              clear Blz
              have Blz := Z
              clear Z
              have Z := Lib.hid (Row.below R2.out hb16)
              clear R2
              have R2 := Z
              clear Z
              have BB17 := Lib.hid (bThen BB13.out hb16)
              clear hb16
              have zs := blk_lt Bls.out
              have xs0 := cellsAt Bls.out 0
              have xs1 := cellsAt Bls.out 1
              have xs2 := cellsAt Bls.out 2
              have fs := frozAt Bls.out
              simp at xs0 xs1 xs2
              have zc := blk_lt Blc.out
              have xc0 := cellsAt Blc.out 0
              have xc1 := cellsAt Blc.out 1
              have xc2 := cellsAt Blc.out 2
              have xc3 := cellsAt Blc.out 3
              have fc := frozAt Blc.out
              simp at xc0 xc1 xc2 xc3
              have zz := blk_lt Blz.out
              have xz0 := cellsAt Blz.out 0
              have xz1 := cellsAt Blz.out 1
              have xz2 := cellsAt Blz.out 2
              have fz := frozAt Blz.out
              simp at xz0 xz1 xz2
              go_upto_region 11 with fail
              have N1 := Lib.hid (blk_set Bls.out 1 (.int .i64 co))
              have N2 := Lib.hid ((Below.heap_setCell W14 ⟨w.heap.size, 1, none⟩ (.int .i64 co) (w.heap.size + 1) (by show w.heap.size + 1 ≠ w.heap.size; omega)).trans Blc.out)
              have N3 := Lib.hid ((Below.heap_setCell W14 ⟨w.heap.size, 1, none⟩ (.int .i64 co) (w.heap.size + 1 + 1) (by show w.heap.size + 1 + 1 ≠ w.heap.size; omega)).trans Blz.out)
              have N4 := Lib.hid (BB17.out.setCell (p := ⟨w.heap.size, 1, none⟩) (Nat.le_refl _) (.int .i64 co))
              clear zs fs xs0 xs1 xs2 zc fc xc0 xc1 xc2 xc3 zz fz xz0 xz1 xz2
              clear Bls Blc Blz R2 BB17
              generalize W14.setCell ⟨w.heap.size, 1, none⟩ (.int .i64 co) = XX at *
              have Bls := Lib.hid (show XX.heap[w.heap.size]? = some (.cells #[.int .i64 g, .int .i64 co, .slice A m cp] 52 (0, 0)) by simpa using N1.out)
              have Blc := N2
              have Blz := N3
              have BXX := N4
              have R2 := Lib.hid (R1.out.below BXX.out)
              clear N1 N2 N3 N4
              have zs := blk_lt Bls.out
              have xs0 := cellsAt Bls.out 0
              have xs1 := cellsAt Bls.out 1
              have xs2 := cellsAt Bls.out 2
              have fs := frozAt Bls.out
              simp at xs0 xs1 xs2
              have zc := blk_lt Blc.out
              have xc0 := cellsAt Blc.out 0
              have xc1 := cellsAt Blc.out 1
              have xc2 := cellsAt Blc.out 2
              have xc3 := cellsAt Blc.out 3
              have fc := frozAt Blc.out
              simp at xc0 xc1 xc2 xc3
              have zz := blk_lt Blz.out
              have xz0 := cellsAt Blz.out 0
              have xz1 := cellsAt Blz.out 1
              have xz2 := cellsAt Blz.out 2
              have fz := frozAt Blz.out
              simp at xz0 xz1 xz2
              have hszx : w.heap.size + 3 ≤ XX.heap.size := by have := blk_lt Blz.out; omega
              have HCX : Hid (∀ W' : World, Below XX.heap.size XX W' → Calls Try.prog 64 #[.slice A m cp] W' (fun e w' => ∃ A4 c4, e = .returned (.slice A4 m c4) ∧ w'.ownsRow W'.heap.size 56 4 (.slice A4 m c4) m (l.flatMap Ck.cs) ∧ Below W'.heap.size W' w' ∧ Below XX.heap.size XX w')) := Lib.hid (fun W' hB => by
                refine (HCL.out W' (R2.out.below hB)).mono ?_
                rintro e w4 ⟨v4, rfl, hown, hb4⟩
                rw [Hm.out] at hown
                obtain ⟨A4, c4, rfl⟩ := own_slice hown
                exact ⟨A4, c4, rfl, hown, hb4, bThen hB hb4⟩)
              have HIN : Hid (∀ (W' w4 : World) (A4 : Option Addr) (c4 B : Nat) (own : w4.ownsRow B 56 4 (.slice A4 m c4) m (l.flatMap Ck.cs)) (hB : XX.heap.size ≤ B) (hW : Below w4.heap.size w4 W') (hX4 : Below XX.heap.size XX w4) (vb : Nat) (TX : TypeId) (hv : W'.heap[vb]? = some (.cells #[.int .i64 cg, .int .i64 cn, .int .i64 co, .string cb] TX (0, 0))) (hne : vb < B ∨ w4.heap.size ≤ vb), Calls Try.prog 63 #[.slice A4 m c4, .int .i64 i, .slice (some ⟨vb, 0, none⟩) 1 1] W' (fun e w9 => ∃ A5 c5, e = .returned (.slice A5 (m + 1) c5) ∧ w9.heap[w.heap.size]? = some (.cells #[.int .i64 g, .int .i64 co, .slice A m cp] 52 (0, 0)) ∧ w9.heap[w.heap.size + 1 + 1]? = some (.cells #[.int .i64 0, .int .i64 0, .slice none 0 0] 52 (0, 0)) ∧ w9.ownsRow (w.heap.size + 3) 56 4 (.slice A5 (m + 1) c5) (m + 1) ((l.take i ++ (⟨cg, cn, co, cb⟩ : Ck) :: l.drop i).flatMap Ck.cs) ∧ Below w.heap.size w w9)) := Lib.hid (fun W' w4 A4 c4 B own hB hW hX4 vb TX hv hne => by
                have own2 := own_base (own_below own hW) (show w.heap.size + 3 ≤ B by omega)
                rw [← Hm.out] at own2 ⊢
                have hsz : w.heap.size + 3 ≤ W'.heap.size := by have h1 := hX4.size; have h2 := hW.size; omega
                refine (insC_at (w := w) own2 (bThen (bThen BXX.out hX4) hW) hsz i (by rw [Hm.out]; exact hi) (by rw [Hm.out]; omega) ⟨cg, cn, co, cb⟩ vb TX (fun e => by have h := own.lt vb (by rw [← Hm.out]; exact e); omega) hv).mono ?_
                rintro e w9 ⟨A5, c5, rfl, hk, h5, hb5⟩
                exact ⟨A5, c5, rfl, by rw [Hm.out]; exact hk _ _ (by omega) (heap_below (heap_below Bls.out hX4) hW), hk _ _ (by omega) (heap_below (heap_below Blz.out hX4) hW), h5, hb5⟩)
              clear HCL
              go_cut [69] (fun px W => TkRel w g co m (l.take i ++ (⟨cg, cn, co, cb⟩ : Ck) :: l.drop i) px W)
              case first =>
                go_region_law (first | (go_simp; go_at_call 64; refine (HCX.out _ (by first | exact Below.refl _ _ | exact Below.drew (Below.refl _ _) | exact bel_alloc (Below.refl _ _) _ | exact Below.drew (bel_alloc (Below.refl _ _) _) | exact bel_alloc (Below.drew (Below.refl _ _)) _)).mono ?_; rintro e w4 ⟨A4, c4, rfl, hown4, hb4, hX4⟩; have Y2 := heap_below Blc.out hX4; have Y1 := heap_below Bls.out hX4; have zc4 := blk_lt Y2; have zs4 := blk_lt Y1; have yc0 := cellsAt Y2 0; have yc1 := cellsAt Y2 1; have yc2 := cellsAt Y2 2; have yc3 := cellsAt Y2 3; simp at yc0 yc1 yc2 yc3; (first | (have hvb := heap_below (W := (XX.alloc (.cells #[.int .i64 cg, .int .i64 cn, .int .i64 co, .string cb] 56)).drew) (show _ = _ from heap_at _ _ _ rfl) hb4) | (have hvb := heap_below (W := XX.alloc (.cells #[.int .i64 cg, .int .i64 cn, .int .i64 co, .string cb] 56)) (show _ = _ from heap_at _ _ _ rfl) hb4) | (have hvb := heap_below (W := XX.drew.alloc (.cells #[.int .i64 cg, .int .i64 cn, .int .i64 co, .string cb] 56)) (show _ = _ from heap_at _ _ _ rfl) hb4) | skip)) | (go_simp; go_at_call 63; refine (HIN.out _ w4 A4 c4 _ hown4 (by first | exact Nat.le_refl _ | simp) (by first | exact Below.refl _ _ | exact Below.drew (Below.refl _ _) | exact bel_alloc (Below.refl _ _) _ | exact Below.drew (bel_alloc (Below.refl _ _) _) | exact bel_alloc (Below.drew (Below.refl _ _)) _) hX4 _ _ (by first | exact heap_at _ _ _ rfl | exact hvb) (by first | exact .inr (Nat.le_refl _) | exact .inl (by simp))).mono ?_; rintro e w9 ⟨A5, c5, rfl, X1, X2, X3, X4⟩; have y0 := cellsAt X1 0; have y1 := cellsAt X1 1; have y2 := cellsAt X1 2; have fy := frozAt X1; have zy := blk_lt X1; simp at y0 y1 y2))
                all_goals
                  go_wp2_with fail
                  go_meet
                  with_reducible exact tk_end X1 X2 X3 X4
              case rest =>
                clear zs fs xs0 xs1 xs2 zc fc xc0 xc1 xc2 xc3 zz fz xz0 xz1 xz2
                obtain ⟨A5, c5, rfl, P1, P2, P3, P4⟩ := hcut
                clear Bls Blc Blz BXX R2 hszx HCX HIN
                have Bls := Lib.hid P1
                have Blz := Lib.hid P2
                have OH := Lib.hid P3
                have BXX := Lib.hid P4
                clear P1 P2 P3 P4
                have zs := blk_lt Bls.out
                have xs0 := cellsAt Bls.out 0
                have xs1 := cellsAt Bls.out 1
                have xs2 := cellsAt Bls.out 2
                have fs := frozAt Bls.out
                simp at xs0 xs1 xs2
                have zz := blk_lt Blz.out
                have xz0 := cellsAt Blz.out 0
                have xz1 := cellsAt Blz.out 1
                have xz2 := cellsAt Blz.out 2
                have fz := frozAt Blz.out
                simp at xz0 xz1 xz2
                go_wp2_with fail
                have Ez := Lib.hid (setG3 Blz.out (.int .i64 g) (.int .i64 co) (.slice A5 (m + 1) c5))
                have BE := Lib.hid (belG3 BXX.out (g := w.heap.size + 1 + 1) (by omega) (.int .i64 g) (.int .i64 co) (.slice A5 (m + 1) c5))
                have O9 := Lib.hid (ownG3 OH.out (g := w.heap.size + 1 + 1) (by omega) (.int .i64 g) (.int .i64 co) (.slice A5 (m + 1) c5))
                clear zs fs xs0 xs1 xs2 zz fz xz0 xz1 xz2
                generalize (((wc).setCell ⟨w.heap.size + 1 + 1, 0, none⟩ (.int .i64 g)).setCell ⟨w.heap.size + 1 + 1, 1, none⟩ (.int .i64 co)).setCell ⟨w.heap.size + 1 + 1, 2, none⟩ (.slice A5 (m + 1) c5) = W9 at *
                have e0 := cellsAt Ez.out 0
                have e1 := cellsAt Ez.out 1
                have e2 := cellsAt Ez.out 2
                simp at e0 e1 e2
                exact bodyPost_ret (v := .tuple #[.agg #[.int .i64 g, .int .i64 co, .slice A5 (m + 1) c5], .int .i64 0]) (by simp [results, Try.results29, go_sem, e0, e1, e2]) rfl ⟨_, rfl, Row.of_own Ck.cs_len O9.out (by simp only [List.length_append, List.length_cons, List.length_take, List.length_drop, Hm.out]; omega), BE.out⟩
          · have t1 : (o == co) = false := by simpa using ho1
            have t12 : decide (o = co) = false := by simpa using ho1
            have t13 : (o != co) = true := by simpa using ho1
            have HOF := HO.out
            unfold takeC at HOF
            rw [if_pos HQ.out, if_neg (by unfold fitB; simp [ho0, ho1])] at HOF
            subst HOF
            go_wp2_with fail
            exact bodyPost_ret (v := .tuple #[.agg #[.int .i64 0, .int .i64 0, .slice none 0 0], .int .i64 200]) (by simp [results, Try.results29, go_sem, xz0, xz1, xz2]) rfl ⟨_, rfl, Row.none_, belG3 BB10.out (by omega) _ _ _⟩
      · have tg : (cg == g) = false := by simpa using hg1
        have tg2 : decide (cg = g) = false := by simpa using hg1
        have tg3 : (cg != g) = true := by simpa using hg1
        have HOF := HO.out
        unfold takeC at HOF
        rw [if_pos HQ.out, if_neg (by unfold fitB; simp [hg1])] at HOF
        subst HOF
        go_wp2_with fail
        exact bodyPost_ret (v := .tuple #[.agg #[.int .i64 0, .int .i64 0, .slice none 0 0], .int .i64 200]) (by simp [results, Try.results29, go_sem, xz0, xz1, xz2]) rfl ⟨_, rfl, Row.none_, belG3 BB10.out (by omega) _ _ _⟩
end Go.Proofs.Ytdanfeldbdooeaa
