/-
  WALKS of layer 10: the reference's Set and Idle.
-/
import Derived.Test.YtdanfeldbdooeaaMarkW16
import Derived.Deep.RegionLaw
import Derived.Deep.RegionHeld3
import Derived.Deep.DeepCutAuto
set_option linter.unusedVariables false
set_option linter.unusedSimpArgs false
namespace Go.Proofs.Ytdanfeldbdooeaa
open Go.RowKit

set_option maxRecDepth 100000 in
set_option maxHeartbeats 4000000 in
theorem rset_any (li : List Inp) (lh : List Hld) (o i t : Int) (v : Value) (w : World) (h : MarksAt w v li lh o) :
    Calls Try.prog 42 #[v, .int .i64 i, .int .i64 t] w (MksTo (setM li lh o i t) w) := by
  have HM := Lib.hid h
  obtain ⟨vi, vh, rfl, r1, r2, -, -, -, hl1, hl2⟩ := h
  unfold maxLen at hl1
  have R1 := Lib.hid r1
  have R2 := Lib.hid r2
  obtain ⟨q, hq⟩ : ∃ q, rightM li lh o = q := ⟨_, rfl⟩
  have HQ := Lib.hid hq
  have HR := Lib.hid (fun W (hm : MarksAt W (.agg #[vi, vh, .int .i64 o]) li lh o) => rmright_any li lh o _ W hm q hq)
  obtain ⟨A1, q1, rfl, -⟩ := r1
  obtain ⟨A2, q2, rfl, -⟩ := r2
  have HWI := Lib.hid (fun (hr : rightM li lh o = true) (N : Nat) (hN : N < li.length) (x : Inp) (W : World) (h1 : Row Inp.cs 2 W (.slice A1 li.length q1) li) => with_any li N hN x o _ (.slice A2 lh.length q2) W h1 ⟨_, _, _, rfl⟩ (by have := right_holds hr; omega))
  obtain ⟨R, hR⟩ : ∃ R, setM li lh o i t = R := ⟨_, rfl⟩
  have HO := Lib.hid hR
  rw [hR]
  clear hq hR hl2
  go_enter Try.func42, Try.ntmps42
  unfold MksTo
  go_wp2_with fail
  obtain ⟨W1, hW2⟩ : ∃ X, X = ((w).alloc (.cells #[.slice A1 li.length q1, .slice A2 lh.length q2, .int .i64 o] 25)).alloc (.cells #[.slice none 0 0, .slice none 0 0, .int .i64 0] 25) := ⟨_, rfl⟩
  rw [← hW2]
  have hb3 : Below w.heap.size w W1 := by rw [hW2]; exact bel_alloc (bel_alloc (Below.refl _ _) _) _
  have Ns := Lib.hid (show W1.heap[w.heap.size]? = some (.cells #[.slice A1 li.length q1, .slice A2 lh.length q2, .int .i64 o] 25 (0, 0)) by rw [hW2]; exact heap_below (heap_at (w) _ (w.heap.size) (by simp)) (bel_alloc (Below.refl _ _) _))
  have Nz := Lib.hid (show W1.heap[w.heap.size + 1]? = some (.cells #[.slice none 0 0, .slice none 0 0, .int .i64 0] 25 (0, 0)) by rw [hW2]; exact heap_at ((w).alloc (.cells #[.slice A1 li.length q1, .slice A2 lh.length q2, .int .i64 o] 25)) _ (w.heap.size + 1) (by simp))
  clear hW2
  have BB4 := Lib.hid hb3
  clear hb3
  have Bls := Ns
  clear Ns
  have Blz := Nz
  clear Nz
  have MW := Lib.hid (HM.out.below BB4.out)
  refine (HR.out _ MW.out).mono ?_
  rintro e w5 ⟨rfl, hb6⟩
  have Z := Lib.hid (heap_below Bls.out hb6)
  clear Bls
  have Bls := Z
  clear Z
  have Z := Lib.hid (heap_below Blz.out hb6)
  clear Blz
  have Blz := Z
  clear Z
  have BB7 := Lib.hid (bThen BB4.out hb6)
  clear hb6
  clear MW HR
  have zs := blk_lt Bls.out
  have xs0 := cellsAt Bls.out 0
  have xs1 := cellsAt Bls.out 1
  have xs2 := cellsAt Bls.out 2
  have fs := frozAt Bls.out
  simp at xs0 xs1 xs2
  have zz := blk_lt Blz.out
  have xz0 := cellsAt Blz.out 0
  have xz1 := cellsAt Blz.out 1
  have xz2 := cellsAt Blz.out 2
  have fz := frozAt Blz.out
  simp at xz0 xz1 xz2
  cases q with
  | false =>
    have HOF := HO.out
    unfold setM at HOF
    rw [if_neg (by unfold inM; rw [HQ.out]; simp)] at HOF
    subst HOF
    go_wp2_with fail
    exact bodyPost_ret (v := .tuple #[.agg #[.slice none 0 0, .slice none 0 0, .int .i64 0], .int .i64 1]) (by simp [results, Try.results42, go_sem, xz0, xz1, xz2]) rfl ⟨_, _, rfl, Row.none_, Row.none_, belC3 BB7.out (by omega) _ _ _⟩
  | true =>
  by_cases h0 : i < 0
  · have t0 : decide (i < 0) = true := by simpa using h0
    have HOF := HO.out
    unfold setM at HOF
    rw [if_neg (by unfold inM; simp; omega)] at HOF
    subst HOF
    go_wp2_with fail
    exact bodyPost_ret (v := .tuple #[.agg #[.slice none 0 0, .slice none 0 0, .int .i64 0], .int .i64 1]) (by simp [results, Try.results42, go_sem, xz0, xz1, xz2]) rfl ⟨_, _, rfl, Row.none_, Row.none_, belC3 BB7.out (by omega) _ _ _⟩
  · have t0 : decide (i < 0) = false := by simpa using h0
    by_cases h1 : (li.length : Int) ≤ i
    · have t1 : decide ((li.length : Int) ≤ i) = true := by simpa using h1
      have HOF := HO.out
      unfold setM at HOF
      rw [if_neg (by unfold inM; simp; omega)] at HOF
      subst HOF
      go_wp2_with fail
      exact bodyPost_ret (v := .tuple #[.agg #[.slice none 0 0, .slice none 0 0, .int .i64 0], .int .i64 1]) (by simp [results, Try.results42, go_sem, xz0, xz1, xz2]) rfl ⟨_, _, rfl, Row.none_, Row.none_, belC3 BB7.out (by omega) _ _ _⟩
    · obtain ⟨N, hN⟩ : ∃ N : Nat, i = N := ⟨i.toNat, by omega⟩
      subst hN
      clear t0
      have t0 : decide ((N : Int) < 0) = false := by simp; try omega
      have t1 : decide ((li.length : Int) ≤ (N : Int)) = false := by simp; omega
      have hNl : N < li.length := by omega
      have hNi : (N : Int) < (li.length : Int) := by omega
      have hN0 : (0 : Int) ≤ (N : Int) := by omega
      obtain ⟨x, hx⟩ : ∃ x, li[N]? = some x := ⟨_, List.getElem?_eq_getElem hNl⟩
      have HX := Lib.hid hx
      have hxb : li[N]! = x := inAt_get hx
      have HOF := HO.out
      unfold setM at HOF
      rw [if_pos (by unfold inM; rw [HQ.out]; simp; omega), Int.toNat_natCast, hxb] at HOF
      subst HOF
      obtain ⟨b', o', c', e', hc', hb', hX⟩ := (R1.out.below BB7.out).at_ hx
      skip
      injection e' with e1 e2 e3
      clear e2 hxb
      subst e1 e3
      have xc0 := hX 0 _ rfl
      have xc1 := hX 1 _ rfl
      clear hX hx
      obtain ⟨xm, xi⟩ := x
      simp only [Nat.add_zero] at xc0 xc1
      have Blz0 := Blz
      go_upto_region 4 with fail
      clear zs fs xs0 xs1 xs2 zz fz xz0 xz1 xz2
      clear xc0 xc1 hb' hc'
      obtain ⟨W8, hW9⟩ : ∃ X, X = (w5).alloc (.cells #[.int .i64 xm, .bool false] 45) := ⟨_, rfl⟩
      rw [← hW9]
      have hb10 : Below w5.heap.size w5 W8 := by rw [hW9]; exact bel_alloc (Below.refl _ _) _
      have Nx := Lib.hid (show W8.heap[w5.heap.size]? = some (.cells #[.int .i64 xm, .bool false] 45 (0, 0)) by rw [hW9]; exact heap_at (w5) _ (w5.heap.size) (by simp))
      clear hW9
      have Z := Lib.hid (heap_below Bls.out hb10)
      clear Bls
      have Bls := Z
      clear Z
      have Z := Lib.hid (heap_below Blz.out hb10)
      clear Blz
      have Blz := Z
      clear Z
      have BB11 := Lib.hid (bThen BB7.out hb10)
      clear hb10
      have Blx := Nx
      clear Nx
      have zx := blk_lt Blx.out
      have xx0 := cellsAt Blx.out 0
      have xx1 := cellsAt Blx.out 1
      have fx := frozAt Blx.out
      simp at xx0 xx1
      go_cut [35] (fun v W => v = .bool (decide (xm < clampT t)) ∧ Below W8.heap.size W8 W)
      case first =>
        go_region_with (first | (go_at_call 71; refine (rclamp_any _ _).mono ?_; rintro e w9 ⟨rfl, rfl⟩))
        all_goals
          go_wp2_with fail
          go_meet
          exact ⟨by simp, by first | exact Below.refl _ _ | exact Below.drew (Below.refl _ _) | exact bDrewN (Below.refl _ _)⟩
      case rest =>
        obtain ⟨rfl, hbc⟩ := hcut
        clear zx fx xx0 xx1
        have Z := Lib.hid (heap_below Bls.out hbc)
        clear Bls
        have Bls := Z
        clear Z
        have Z := Lib.hid (heap_below Blz.out hbc)
        clear Blz
        have Blz := Z
        clear Z
        have Z := Lib.hid (heap_below Blx.out hbc)
        clear Blx
        have Blx := Z
        clear Z
        have BB12 := Lib.hid (bThen BB11.out hbc)
        clear hbc
        have hgx : w.heap.size + 1 < w5.heap.size := by have := blk_lt Blz0.out; exact this
        obtain ⟨tb, htb⟩ : ∃ tb, decide (xm < clampT t) = tb := ⟨_, rfl⟩
        rw [htb]
        have zs := blk_lt Bls.out
        have xs0 := cellsAt Bls.out 0
        have xs1 := cellsAt Bls.out 1
        have xs2 := cellsAt Bls.out 2
        have fs := frozAt Bls.out
        simp at xs0 xs1 xs2
        have zx := blk_lt Blx.out
        have xx0 := cellsAt Blx.out 0
        have xx1 := cellsAt Blx.out 1
        have fx := frozAt Blx.out
        simp at xx0 xx1
        have zz := blk_lt Blz.out
        have xz0 := cellsAt Blz.out 0
        have xz1 := cellsAt Blz.out 1
        have xz2 := cellsAt Blz.out 2
        have fz := frozAt Blz.out
        simp at xz0 xz1 xz2
        cases tb with
        | true =>
          have hm : max xm (clampT t) = clampT t := Int.max_eq_right (Int.le_of_lt (by simpa using htb))
          have HMX := Lib.hid hm
          clear hm htb
          go_wp2_with fail
          refine (rclamp_any _ _).mono ?_
          rintro e w9 ⟨rfl, rfl⟩
          go_upto_region 6 with fail
          have Y1 := Lib.hid ((Below.heap_setCell wc ⟨w5.heap.size, 0, none⟩ (.int .i64 (clampT t)) w.heap.size (by simp; omega)).trans Bls.out)
          have Y2 := Lib.hid ((Below.heap_setCell wc ⟨w5.heap.size, 0, none⟩ (.int .i64 (clampT t)) (w.heap.size + 1) (by simp; omega)).trans Blz.out)
          have Y3 := Lib.hid (by simpa using blk_set Blx.out 0 (.int .i64 (clampT t)))
          have Y4 := Lib.hid (BB12.out.setCell (p := ⟨w5.heap.size, 0, none⟩) (by show w.heap.size ≤ w5.heap.size; omega) (.int .i64 (clampT t)))
          clear zs fs xs0 xs1 xs2 zx fx xx0 xx1 zz fz xz0 xz1 xz2
          clear Bls Blz Blx BB12
          generalize wc.setCell ⟨w5.heap.size, 0, none⟩ (.int .i64 (clampT t)) = W6 at *
          have Bls := Y1
          have Blz := Y2
          have Blx := Y3
          have BB12 := Y4
          clear Y1 Y2 Y3 Y4
          have zs := blk_lt Bls.out
          have xs0 := cellsAt Bls.out 0
          have xs1 := cellsAt Bls.out 1
          have xs2 := cellsAt Bls.out 2
          have fs := frozAt Bls.out
          simp at xs0 xs1 xs2
          have zx := blk_lt Blx.out
          have xx0 := cellsAt Blx.out 0
          have xx1 := cellsAt Blx.out 1
          have fx := frozAt Blx.out
          simp at xx0 xx1
          have hzl := blk_lt Blz.out
          go_wp2_with fail
          refine (HWI.out HQ.out N hNl ⟨clampT t, false⟩ _ (R1.out.below BB12.out)).mono ?_
          rintro e w13 ⟨v1, rfl, hown, hb14⟩
          obtain ⟨A9, c9, rfl⟩ := own_slice hown
          rw [← HMX.out] at hown
          have OW := Lib.hid hown
          clear hown
          clear zs fs xs0 xs1 xs2 zx fx xx0 xx1
          have Z := Lib.hid (heap_below Bls.out hb14)
          clear Bls
          have Bls := Z
          clear Z
          have Z := Lib.hid (heap_below Blz.out hb14)
          clear Blz
          have Blz := Z
          clear Z
          have Z := Lib.hid (heap_below Blx.out hb14)
          clear Blx
          have Blx := Z
          clear Z
          have BB15 := Lib.hid (bThen BB12.out hb14)
          clear hb14
          have zz := blk_lt Blz.out
          have xz0 := cellsAt Blz.out 0
          have xz1 := cellsAt Blz.out 1
          have xz2 := cellsAt Blz.out 2
          have fz := frozAt Blz.out
          simp at xz0 xz1 xz2
          go_wp2_with fail
          have Ez := Lib.hid (setC3 Blz.out (.slice A9 li.length c9) (.slice A2 lh.length q2) (.int .i64 o))
          have BE := Lib.hid (belC3 BB15.out (g := w.heap.size + 1) (by omega) (.slice A9 li.length c9) (.slice A2 lh.length q2) (.int .i64 o))
          have O9 := Lib.hid (ownC3 OW.out (g := w.heap.size + 1) (by first | exact hzl | omega) (.slice A9 li.length c9) (.slice A2 lh.length q2) (.int .i64 o))
          clear zz fz xz0 xz1 xz2
          generalize (((w13).setCell ⟨w.heap.size + 1, 0, none⟩ (.slice A9 li.length c9)).setCell ⟨w.heap.size + 1, 1, none⟩ (.slice A2 lh.length q2)).setCell ⟨w.heap.size + 1, 2, none⟩ (.int .i64 o) = W9 at *
          have e0 := cellsAt Ez.out 0
          have e1 := cellsAt Ez.out 1
          have e2 := cellsAt Ez.out 2
          simp at e0 e1 e2
          exact bodyPost_ret (v := .tuple #[.agg #[.slice A9 li.length c9, .slice A2 lh.length q2, .int .i64 o], .int .i64 0]) (by simp [results, Try.results42, go_sem, e0, e1, e2]) rfl ⟨_, _, rfl, Row.of_own Inp.cs_len O9.out (by simp), R2.out.below BE.out, BE.out⟩
        | false =>
          have hm : max xm (clampT t) = xm := Int.max_eq_left (by have := of_decide_eq_false htb; omega)
          have HMX := Lib.hid hm
          clear hm htb
          have hzl := blk_lt Blz.out
          go_wp2_with fail
          refine (HWI.out HQ.out N hNl ⟨xm, false⟩ _ (R1.out.below BB12.out)).mono ?_
          rintro e w13 ⟨v1, rfl, hown, hb14⟩
          obtain ⟨A9, c9, rfl⟩ := own_slice hown
          rw [show (⟨xm, false⟩ : Inp) = ⟨max xm (clampT t), false⟩ by rw [HMX.out]] at hown
          have OW := Lib.hid hown
          clear hown
          clear zs fs xs0 xs1 xs2 zx fx xx0 xx1 zz fz xz0 xz1 xz2
          have Z := Lib.hid (heap_below Bls.out hb14)
          clear Bls
          have Bls := Z
          clear Z
          have Z := Lib.hid (heap_below Blz.out hb14)
          clear Blz
          have Blz := Z
          clear Z
          have Z := Lib.hid (heap_below Blx.out hb14)
          clear Blx
          have Blx := Z
          clear Z
          have BB15 := Lib.hid (bThen BB12.out hb14)
          clear hb14
          have zz := blk_lt Blz.out
          have xz0 := cellsAt Blz.out 0
          have xz1 := cellsAt Blz.out 1
          have xz2 := cellsAt Blz.out 2
          have fz := frozAt Blz.out
          simp at xz0 xz1 xz2
          go_wp2_with fail
          have Ez := Lib.hid (setC3 Blz.out (.slice A9 li.length c9) (.slice A2 lh.length q2) (.int .i64 o))
          have BE := Lib.hid (belC3 BB15.out (g := w.heap.size + 1) (by omega) (.slice A9 li.length c9) (.slice A2 lh.length q2) (.int .i64 o))
          have O9 := Lib.hid (ownC3 OW.out (g := w.heap.size + 1) (by first | exact hzl | omega) (.slice A9 li.length c9) (.slice A2 lh.length q2) (.int .i64 o))
          clear zz fz xz0 xz1 xz2
          generalize (((w13).setCell ⟨w.heap.size + 1, 0, none⟩ (.slice A9 li.length c9)).setCell ⟨w.heap.size + 1, 1, none⟩ (.slice A2 lh.length q2)).setCell ⟨w.heap.size + 1, 2, none⟩ (.int .i64 o) = W9 at *
          have e0 := cellsAt Ez.out 0
          have e1 := cellsAt Ez.out 1
          have e2 := cellsAt Ez.out 2
          simp at e0 e1 e2
          exact bodyPost_ret (v := .tuple #[.agg #[.slice A9 li.length c9, .slice A2 lh.length q2, .int .i64 o], .int .i64 0]) (by simp [results, Try.results42, go_sem, e0, e1, e2]) rfl ⟨_, _, rfl, Row.of_own Inp.cs_len O9.out (by simp), R2.out.below BE.out, BE.out⟩

set_option maxRecDepth 100000 in
set_option maxHeartbeats 4000000 in
theorem ridle_any (li : List Inp) (lh : List Hld) (o i : Int) (v : Value) (w : World) (h : MarksAt w v li lh o) :
    Calls Try.prog 43 #[v, .int .i64 i] w (MksTo (idleM li lh o i) w) := by
  have HM := Lib.hid h
  obtain ⟨vi, vh, rfl, r1, r2, -, -, -, hl1, hl2⟩ := h
  unfold maxLen at hl1
  have R1 := Lib.hid r1
  have R2 := Lib.hid r2
  obtain ⟨q, hq⟩ : ∃ q, rightM li lh o = q := ⟨_, rfl⟩
  have HQ := Lib.hid hq
  have HR := Lib.hid (fun W (hm : MarksAt W (.agg #[vi, vh, .int .i64 o]) li lh o) => rmright_any li lh o _ W hm q hq)
  obtain ⟨A1, q1, rfl, -⟩ := r1
  obtain ⟨A2, q2, rfl, -⟩ := r2
  have HWI := Lib.hid (fun (hr : rightM li lh o = true) (N : Nat) (hN : N < li.length) (x : Inp) (W : World) (h1 : Row Inp.cs 2 W (.slice A1 li.length q1) li) => with_any li N hN x o _ (.slice A2 lh.length q2) W h1 ⟨_, _, _, rfl⟩ (by have := right_holds hr; omega))
  obtain ⟨R, hR⟩ : ∃ R, idleM li lh o i = R := ⟨_, rfl⟩
  have HO := Lib.hid hR
  rw [hR]
  clear hq hR hl2
  go_enter Try.func43, Try.ntmps43
  unfold MksTo
  go_wp2_with fail
  obtain ⟨W1, hW2⟩ : ∃ X, X = ((w).alloc (.cells #[.slice A1 li.length q1, .slice A2 lh.length q2, .int .i64 o] 25)).alloc (.cells #[.slice none 0 0, .slice none 0 0, .int .i64 0] 25) := ⟨_, rfl⟩
  rw [← hW2]
  have hb3 : Below w.heap.size w W1 := by rw [hW2]; exact bel_alloc (bel_alloc (Below.refl _ _) _) _
  have Ns := Lib.hid (show W1.heap[w.heap.size]? = some (.cells #[.slice A1 li.length q1, .slice A2 lh.length q2, .int .i64 o] 25 (0, 0)) by rw [hW2]; exact heap_below (heap_at (w) _ (w.heap.size) (by simp)) (bel_alloc (Below.refl _ _) _))
  have Nz := Lib.hid (show W1.heap[w.heap.size + 1]? = some (.cells #[.slice none 0 0, .slice none 0 0, .int .i64 0] 25 (0, 0)) by rw [hW2]; exact heap_at ((w).alloc (.cells #[.slice A1 li.length q1, .slice A2 lh.length q2, .int .i64 o] 25)) _ (w.heap.size + 1) (by simp))
  clear hW2
  have BB4 := Lib.hid hb3
  clear hb3
  have Bls := Ns
  clear Ns
  have Blz := Nz
  clear Nz
  have MW := Lib.hid (HM.out.below BB4.out)
  refine (HR.out _ MW.out).mono ?_
  rintro e w5 ⟨rfl, hb6⟩
  have Z := Lib.hid (heap_below Bls.out hb6)
  clear Bls
  have Bls := Z
  clear Z
  have Z := Lib.hid (heap_below Blz.out hb6)
  clear Blz
  have Blz := Z
  clear Z
  have BB7 := Lib.hid (bThen BB4.out hb6)
  clear hb6
  clear MW HR
  have zs := blk_lt Bls.out
  have xs0 := cellsAt Bls.out 0
  have xs1 := cellsAt Bls.out 1
  have xs2 := cellsAt Bls.out 2
  have fs := frozAt Bls.out
  simp at xs0 xs1 xs2
  have zz := blk_lt Blz.out
  have xz0 := cellsAt Blz.out 0
  have xz1 := cellsAt Blz.out 1
  have xz2 := cellsAt Blz.out 2
  have fz := frozAt Blz.out
  simp at xz0 xz1 xz2
  cases q with
  | false =>
    have HOF := HO.out
    unfold idleM at HOF
    rw [if_neg (by unfold inM; rw [HQ.out]; simp)] at HOF
    subst HOF
    go_wp2_with fail
    exact bodyPost_ret (v := .tuple #[.agg #[.slice none 0 0, .slice none 0 0, .int .i64 0], .int .i64 1]) (by simp [results, Try.results43, go_sem, xz0, xz1, xz2]) rfl ⟨_, _, rfl, Row.none_, Row.none_, belC3 BB7.out (by omega) _ _ _⟩
  | true =>
  by_cases h0 : i < 0
  · have t0 : decide (i < 0) = true := by simpa using h0
    have HOF := HO.out
    unfold idleM at HOF
    rw [if_neg (by unfold inM; simp; omega)] at HOF
    subst HOF
    go_wp2_with fail
    exact bodyPost_ret (v := .tuple #[.agg #[.slice none 0 0, .slice none 0 0, .int .i64 0], .int .i64 1]) (by simp [results, Try.results43, go_sem, xz0, xz1, xz2]) rfl ⟨_, _, rfl, Row.none_, Row.none_, belC3 BB7.out (by omega) _ _ _⟩
  · have t0 : decide (i < 0) = false := by simpa using h0
    by_cases h1 : (li.length : Int) ≤ i
    · have t1 : decide ((li.length : Int) ≤ i) = true := by simpa using h1
      have HOF := HO.out
      unfold idleM at HOF
      rw [if_neg (by unfold inM; simp; omega)] at HOF
      subst HOF
      go_wp2_with fail
      exact bodyPost_ret (v := .tuple #[.agg #[.slice none 0 0, .slice none 0 0, .int .i64 0], .int .i64 1]) (by simp [results, Try.results43, go_sem, xz0, xz1, xz2]) rfl ⟨_, _, rfl, Row.none_, Row.none_, belC3 BB7.out (by omega) _ _ _⟩
    · obtain ⟨N, hN⟩ : ∃ N : Nat, i = N := ⟨i.toNat, by omega⟩
      subst hN
      clear t0
      have t0 : decide ((N : Int) < 0) = false := by simp; try omega
      have t1 : decide ((li.length : Int) ≤ (N : Int)) = false := by simp; omega
      have hNl : N < li.length := by omega
      have hNi : (N : Int) < (li.length : Int) := by omega
      have hN0 : (0 : Int) ≤ (N : Int) := by omega
      obtain ⟨x, hx⟩ : ∃ x, li[N]? = some x := ⟨_, List.getElem?_eq_getElem hNl⟩
      have HX := Lib.hid hx
      have hxb : li[N]! = x := inAt_get hx
      have HOF := HO.out
      unfold idleM at HOF
      rw [if_pos (by unfold inM; rw [HQ.out]; simp; omega), Int.toNat_natCast, hxb] at HOF
      subst HOF
      obtain ⟨b', o', c', e', hc', hb', hX⟩ := (R1.out.below BB7.out).at_ hx
      skip
      injection e' with e1 e2 e3
      clear e2 hxb
      subst e1 e3
      have xc0 := hX 0 _ rfl
      have xc1 := hX 1 _ rfl
      clear hX hx
      obtain ⟨xm, xi⟩ := x
      simp only [Nat.add_zero] at xc0 xc1
      have HWI2 : Hid (∀ W : World, Below w5.heap.size w5 W → Calls Try.prog 72 #[.agg #[.slice (some ⟨b', o', none⟩) li.length q1, .slice A2 lh.length q2, .int .i64 o], .int .i64 (N : Int), .agg #[.int .i64 xm, .bool true]] W (fun e w' => ∃ A9 c9, e = .returned (.agg #[.slice A9 li.length c9, .slice A2 lh.length q2, .int .i64 o]) ∧ w'.heap[w.heap.size + 1]? = some (.cells #[.slice none 0 0, .slice none 0 0, .int .i64 0] 25 (0, 0)) ∧ w'.ownsRow (w.heap.size + 2) 45 2 (.slice A9 li.length c9) li.length ((li.set N ⟨xm, true⟩).flatMap Inp.cs) ∧ Below w.heap.size w w')) := Lib.hid (fun W hW => by
        refine (HWI.out HQ.out N hNl ⟨xm, true⟩ _ (R1.out.below (bThen BB7.out hW))).mono ?_
        rintro e w9 ⟨v1, rfl, hown, hb9⟩
        obtain ⟨A9, c9, rfl⟩ := own_slice hown
        exact ⟨A9, c9, rfl, heap_below (heap_below Blz.out hW) hb9, own_base hown (by have := blk_lt (heap_below Blz.out hW); omega), bThen (bThen BB7.out hW) hb9⟩)
      go_wp2_with fail
      go_region_law (first | (go_simp; go_at_call 72; refine (HWI2.out _ (by first | exact Below.refl _ _ | exact Below.drew (Below.refl _ _) | exact bDrewN (Below.refl _ _))).mono ?_; rintro e w9 ⟨A9, c9, rfl, X1, X2, X3⟩; have y0 := cellsAt X1 0; have y1 := cellsAt X1 1; have y2 := cellsAt X1 2; have fy := frozAt X1; have zy := blk_lt X1; simp at y0 y1 y2))
      all_goals
        go_wp2_with fail
        exact bodyPost_ret (v := .tuple #[.agg #[.slice A9 li.length c9, .slice A2 lh.length q2, .int .i64 o], .int .i64 0]) (by simp [results, Try.results43, go_sem, y0, y1, y2]) rfl ⟨_, _, rfl, Row.of_own Inp.cs_len (ownC3 X2 (g := w.heap.size + 1) (by omega) _ _ _) (by simp), R2.out.below (belC3 X3 (g := w.heap.size + 1) (by omega) _ _ _), belC3 X3 (g := w.heap.size + 1) (by omega) _ _ _⟩
end Go.Proofs.Ytdanfeldbdooeaa
