/-
  WALKS of layer 10: mark.Free.
-/
import Derived.Test.YtdanfeldbdooeaaMarkP1
import Derived.Deep.RegionLaw
import Derived.Deep.DeepCutAuto
set_option linter.unusedVariables false
set_option linter.unusedSimpArgs false
namespace Go.Proofs.Ytdanfeldbdooeaa
open Go.RowKit

set_option maxRecDepth 100000 in
set_option maxHeartbeats 8000000 in
theorem free_any (li : List Inp) (lh : List Hld) (o no : Int) (v : Value) (w : World) (h : MarksAt w v li lh o) :
    Calls Try.prog 21 #[v, .int .i64 no] w (MksTo (freeM li lh o no) w) := by
  have HM := Lib.hid h
  obtain ⟨vi, vh, rfl, r1, r2, -⟩ := h
  have R1 := Lib.hid r1
  have R2 := Lib.hid r2
  obtain ⟨q, hq⟩ : ∃ q, rightM li lh o = q := ⟨_, rfl⟩
  have HQ := Lib.hid hq
  have HR := Lib.hid (fun W (hm : MarksAt W (.agg #[vi, vh, .int .i64 o]) li lh o) => mright_any li lh o _ W hm q hq)
  have HOW := Lib.hid (fun W (hr : rightM li lh o = true) (h1 : Row Inp.cs 2 W vi li) (h2 : Row Hld.cs 2 W vh lh) => own_any li lh o vi vh W h1 h2 (by have := right_holds hr; omega) (by have := right_holds hr; omega))
  have HFI := Lib.hid (fun (hr : rightM li lh o = true) (va vb : Value) (W : World) (h2 : Row Hld.cs 2 W vb lh) => findM_any lh o no va vb W h2 (by have := right_holds hr; omega) (srt_of (right_holds hr).1))
  obtain ⟨A1, q1, rfl, -⟩ := r1
  obtain ⟨A2, q2, rfl, -⟩ := r2
  obtain ⟨R, hR⟩ : ∃ R, freeM li lh o no = R := ⟨_, rfl⟩
  have HO := Lib.hid hR
  rw [hR]
  clear hq hR
  go_enter Try.func21, Try.ntmps21
  unfold MksTo
  go_wp2_with fail
  obtain ⟨W1, hW2⟩ : ∃ X, X = ((w).alloc (.cells #[.slice A1 li.length q1, .slice A2 lh.length q2, .int .i64 o] 25)).alloc (.cells #[.slice none 0 0, .slice none 0 0, .int .i64 0] 25) := ⟨_, rfl⟩
  rw [← hW2]
  have hb3 : Below w.heap.size w W1 := by rw [hW2]; exact bel_alloc (bel_alloc (Below.refl _ _) _) _
  have Ns := Lib.hid (show W1.heap[w.heap.size]? = some (.cells #[.slice A1 li.length q1, .slice A2 lh.length q2, .int .i64 o] 25 (0, 0)) by rw [hW2]; exact heap_below (heap_at (w) _ (w.heap.size) (by simp)) (bel_alloc (Below.refl _ _) _))
  have Nz := Lib.hid (show W1.heap[w.heap.size + 1]? = some (.cells #[.slice none 0 0, .slice none 0 0, .int .i64 0] 25 (0, 0)) by rw [hW2]; exact heap_at ((w).alloc (.cells #[.slice A1 li.length q1, .slice A2 lh.length q2, .int .i64 o] 25)) _ (w.heap.size + 1) (by simp))
  clear hW2
  have BB4 := Lib.hid hb3
  clear hb3
  have Bls := Ns
  clear Ns
  have Blz := Nz
  clear Nz
  have MW := Lib.hid (HM.out.below BB4.out)
  refine (HR.out _ MW.out).mono ?_
  rintro e w5 ⟨rfl, hb6⟩
  have Z := Lib.hid (heap_below Bls.out hb6)
  clear Bls
  have Bls := Z
  clear Z
  have Z := Lib.hid (heap_below Blz.out hb6)
  clear Blz
  have Blz := Z
  clear Z
  have BB7 := Lib.hid (bThen BB4.out hb6)
  clear hb6
  clear MW HR
  have Z := Lib.hid (R1.out.below BB7.out)
  clear R1
  have R1 := Z
  clear Z
  have Z := Lib.hid (R2.out.below BB7.out)
  clear R2
  have R2 := Z
  clear Z
  have zs := blk_lt Bls.out
  have xs0 := cellsAt Bls.out 0
  have xs1 := cellsAt Bls.out 1
  have xs2 := cellsAt Bls.out 2
  have fs := frozAt Bls.out
  simp at xs0 xs1 xs2
  have zz := blk_lt Blz.out
  have xz0 := cellsAt Blz.out 0
  have xz1 := cellsAt Blz.out 1
  have xz2 := cellsAt Blz.out 2
  have fz := frozAt Blz.out
  simp at xz0 xz1 xz2
  cases q with
  | false =>
    have HOF := HO.out
    unfold freeM at HOF
    rw [if_neg (by rw [HQ.out]; simp)] at HOF
    subst HOF
    go_wp2_with fail
    exact bodyPost_ret (v := .tuple #[.agg #[.slice none 0 0, .slice none 0 0, .int .i64 0], .int .i64 1]) (by simp [results, Try.results21, go_sem, xz0, xz1, xz2]) rfl ⟨_, _, rfl, Row.none_, Row.none_, belC3 BB7.out (by omega) _ _ _⟩
  | true =>
    go_wp2_with fail
    refine (HFI.out HQ.out _ _ _ R2.out).mono ?_
    rintro e w8 ⟨i, hi, rfl, ha, hb9⟩
    clear zs fs xs0 xs1 xs2 zz fz xz0 xz1 xz2
    have Z := Lib.hid (heap_below Bls.out hb9)
    clear Bls
    have Bls := Z
    clear Z
    have Z := Lib.hid (heap_below Blz.out hb9)
    clear Blz
    have Blz := Z
    clear Z
    have Z := Lib.hid (Row.below R1.out hb9)
    clear R1
    have R1 := Z
    clear Z
    have Z := Lib.hid (Row.below R2.out hb9)
    clear R2
    have R2 := Z
    clear Z
    have BB10 := Lib.hid (bThen BB7.out hb9)
    clear hb9
    have HAT := Lib.hid ha
    clear ha HFI
    obtain ⟨f, hf⟩ : ∃ f, fndH lh i no = f := ⟨_, rfl⟩
    rw [hf]
    have HF := Lib.hid hf
    clear hf
    have HS := Lib.hid (srt_of (right_holds HQ.out).1)
    have h32 := (right_holds HQ.out).2.1
    have zs := blk_lt Bls.out
    have xs0 := cellsAt Bls.out 0
    have xs1 := cellsAt Bls.out 1
    have xs2 := cellsAt Bls.out 2
    have fs := frozAt Bls.out
    simp at xs0 xs1 xs2
    have zz := blk_lt Blz.out
    have xz0 := cellsAt Blz.out 0
    have xz1 := cellsAt Blz.out 1
    have xz2 := cellsAt Blz.out 2
    have fz := frozAt Blz.out
    simp at xz0 xz1 xz2
    cases f with
    | false =>
      have HOF := HO.out
      unfold freeM at HOF
      rw [if_neg (by rw [(at_no HAT.out HS.out HF.out).2.2]; simp)] at HOF
      subst HOF
      go_wp2_with fail
      exact bodyPost_ret (v := .tuple #[.agg #[.slice none 0 0, .slice none 0 0, .int .i64 0], .int .i64 1]) (by simp [results, Try.results21, go_sem, xz0, xz1, xz2]) rfl ⟨_, _, rfl, Row.none_, Row.none_, belC3 BB10.out (by omega) _ _ _⟩
    | true =>
      obtain ⟨x, hx, -, -, hrem, hhas⟩ := at_yes HAT.out HS.out HF.out
      have hil := (List.getElem?_eq_some_iff.1 hx).1
      clear hx
      have HOF := HO.out
      unfold freeM at HOF
      rw [if_pos (by rw [HQ.out, hhas]; rfl)] at HOF
      unfold remH at HOF
      rw [hrem] at HOF
      subst HOF
      clear hrem hhas
      obtain ⟨m, hm⟩ : ∃ m, lh.length = m + 1 := ⟨lh.length - 1, by omega⟩
      have HMM := Lib.hid hm
      clear hm
      have Blz0 := Blz
      go_wp2_with fail
      refine (HOW.out _ HQ.out R1.out R2.out).mono ?_
      rintro e w11 ⟨v3, v4, rfl, hO3, hO4, hb12⟩
      clear zs fs xs0 xs1 xs2 zz fz xz0 xz1 xz2
      have Z := Lib.hid (heap_below Bls.out hb12)
      clear Bls
      have Bls := Z
      clear Z
      have Z := Lib.hid (heap_below Blz.out hb12)
      clear Blz
      have Blz := Z
      clear Z
      have Z := Lib.hid (Row.below R1.out hb12)
      clear R1
      have R1 := Z
      clear Z
      have Z := Lib.hid (Row.below R2.out hb12)
      clear R2
      have R2 := Z
      clear Z
      have BB13 := Lib.hid (bThen BB10.out hb12)
      clear hb12
      have hsz := blk_lt Blz.out
      have OI := Lib.hid (own_base hO3 (show w.heap.size + 2 ≤ _ by have := blk_lt Blz0.out; omega))
      have OH := Lib.hid (own_base hO4 (show w.heap.size + 2 ≤ _ by have := blk_lt Blz0.out; omega))
      obtain ⟨A3, q3, rfl⟩ := own_slice hO3
      obtain ⟨A4, q4, rfl⟩ := own_slice hO4
      clear hO3 hO4 hsz Blz0
      have zs := blk_lt Bls.out
      have xs0 := cellsAt Bls.out 0
      have xs1 := cellsAt Bls.out 1
      have xs2 := cellsAt Bls.out 2
      have fs := frozAt Bls.out
      simp at xs0 xs1 xs2
      have HDEL := Lib.hid (fun (W : World) (hs : W.heap[w.heap.size]? = some (.cells #[.slice A3 li.length q3, .slice A4 lh.length q4, .int .i64 o] 25 (0, 0))) (hz : W.heap[w.heap.size + 1]? = some (.cells #[.slice none 0 0, .slice none 0 0, .int .i64 0] 25 (0, 0))) hoi hoh hb => del_at (w := w) (vi := .slice A3 li.length q3) (v4 := .slice A4 lh.length q4) (li := li) (lh := lh) (W := W) hs hz hoi hoh hb HMM.out i (by have := HMM.out; omega))
      go_upto_region 7 with fail
      have Z1 := Lib.hid (setC3 Bls.out (.slice A3 li.length q3) (.slice A4 lh.length q4) (.int .i64 o))
      have Z2 := Lib.hid ((blkC3 w11 w.heap.size (w.heap.size + 1) (by omega) (.slice A3 li.length q3) (.slice A4 lh.length q4) (.int .i64 o)).trans Blz.out)
      have Z3 := Lib.hid (ownC3 OI.out (g := w.heap.size) (by omega) (.slice A3 li.length q3) (.slice A4 lh.length q4) (.int .i64 o))
      have Z4 := Lib.hid (ownC3 OH.out (g := w.heap.size) (by omega) (.slice A3 li.length q3) (.slice A4 lh.length q4) (.int .i64 o))
      have Z5 := Lib.hid (belC3 BB13.out (g := w.heap.size) (Nat.le_refl _) (.slice A3 li.length q3) (.slice A4 lh.length q4) (.int .i64 o))
      clear zs fs xs0 xs1 xs2
      clear Bls Blz OI OH BB13
      generalize (((w11).setCell ⟨w.heap.size, 0, none⟩ (.slice A3 li.length q3)).setCell ⟨w.heap.size, 1, none⟩ (.slice A4 lh.length q4)).setCell ⟨w.heap.size, 2, none⟩ (.int .i64 o) = W5 at *
      have Bls := Z1
      have Blz := Z2
      have OI := Z3
      have OH := Z4
      have BB13 := Z5
      clear Z1 Z2 Z3 Z4 Z5
      have zs := blk_lt Bls.out
      have xs0 := cellsAt Bls.out 0
      have xs1 := cellsAt Bls.out 1
      have xs2 := cellsAt Bls.out 2
      have fs := frozAt Bls.out
      simp at xs0 xs1 xs2
      have zz := blk_lt Blz.out
      have xz0 := cellsAt Blz.out 0
      have xz1 := cellsAt Blz.out 1
      have xz2 := cellsAt Blz.out 2
      have fz := frozAt Blz.out
      simp at xz0 xz1 xz2
      have hw1 : IntKind.i64.wrap ((i : Int) + 1) = (i : Int) + 1 := by rw [IntKind.wrap_i64]; omega
      go_wp2_with fail
      refine (HDEL.out _ Bls.out Blz.out OI.out OH.out BB13.out).mono ?_
      rintro e w9 ⟨A5, c5, rfl, X1, X2, X3, X4, X5⟩
      clear zs fs xs0 xs1 xs2 zz fz xz0 xz1 xz2
      clear HDEL Bls Blz OI OH BB13
      have y0 := cellsAt X1 0
      have y1 := cellsAt X1 1
      have y2 := cellsAt X1 2
      have fy := frozAt X1
      have zy := blk_lt X1
      simp at y0 y1 y2
      go_upto_region 8 with fail
      have P1 := blk_set X1 1 (.slice A5 m c5)
      have P2 := (Below.heap_setCell w9 ⟨w.heap.size, 1, none⟩ (.slice A5 m c5) (w.heap.size + 1) (by simp)).trans X2
      have P3 := own_set X3 (p := ⟨w.heap.size, 1, none⟩) (by show w.heap.size < _; omega) (.slice A5 m c5)
      have P4 := own_set X4 (p := ⟨w.heap.size, 1, none⟩) (by show w.heap.size < _; omega) (.slice A5 m c5)
      have P5 := X5.setCell (p := ⟨w.heap.size, 1, none⟩) (Nat.le_refl _) (.slice A5 m c5)
      clear X1 X2 X3 X4 X5 y0 y1 y2 fy zy
      generalize w9.setCell ⟨w.heap.size, 1, none⟩ (.slice A5 m c5) = wc at *
      simp at P1
      have Bls := Lib.hid P1
      have Blz := Lib.hid P2
      have OI := Lib.hid P3
      have OH := Lib.hid P4
      have BB13 := Lib.hid P5
      clear P1 P2 P3 P4 P5
      have zs := blk_lt Bls.out
      have xs0 := cellsAt Bls.out 0
      have xs1 := cellsAt Bls.out 1
      have xs2 := cellsAt Bls.out 2
      have fs := frozAt Bls.out
      simp at xs0 xs1 xs2
      have zz := blk_lt Blz.out
      have xz0 := cellsAt Blz.out 0
      have xz1 := cellsAt Blz.out 1
      have xz2 := cellsAt Blz.out 2
      have fz := frozAt Blz.out
      simp at xz0 xz1 xz2
      go_wp2_with fail
      have Ez := Lib.hid (setC3 Blz.out (.slice A3 li.length q3) (.slice A5 m c5) (.int .i64 o))
      have BE := Lib.hid (belC3 BB13.out (g := w.heap.size + 1) (by omega) (.slice A3 li.length q3) (.slice A5 m c5) (.int .i64 o))
      have OI9 := Lib.hid (ownC3 OI.out (g := w.heap.size + 1) (by omega) (.slice A3 li.length q3) (.slice A5 m c5) (.int .i64 o))
      have OH9 := Lib.hid (ownC3 OH.out (g := w.heap.size + 1) (by omega) (.slice A3 li.length q3) (.slice A5 m c5) (.int .i64 o))
      clear zs fs xs0 xs1 xs2 zz fz xz0 xz1 xz2
      generalize (((wc).setCell ⟨w.heap.size + 1, 0, none⟩ (.slice A3 li.length q3)).setCell ⟨w.heap.size + 1, 1, none⟩ (.slice A5 m c5)).setCell ⟨w.heap.size + 1, 2, none⟩ (.int .i64 o) = W9 at *
      have e0 := cellsAt Ez.out 0
      have e1 := cellsAt Ez.out 1
      have e2 := cellsAt Ez.out 2
      simp at e0 e1 e2
      exact bodyPost_ret (v := .tuple #[.agg #[.slice A3 li.length q3, .slice A5 m c5, .int .i64 o], .int .i64 0]) (by simp [results, Try.results21, go_sem, e0, e1, e2]) rfl ⟨_, _, rfl, Row.of_own Inp.cs_len OI9.out rfl, Row.of_own Hld.cs_len OH9.out (by simp only [List.length_append, List.length_take, List.length_drop]; have := HMM.out; omega), BE.out⟩
end Go.Proofs.Ytdanfeldbdooeaa
