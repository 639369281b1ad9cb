/-
  WALKS of layer 10: Right on both sides.
-/
import Derived.Test.YtdanfeldbdooeaaMarkW1
set_option linter.unusedVariables false
set_option linter.unusedSimpArgs false
namespace Go.Proofs.Ytdanfeldbdooeaa
open Go.RowKit

theorem time_same (n : Int) (w : World) (b : Bool) (hb : timeB n = b) : Calls Try.prog 55 #[.int .i64 n] w fun e w' => e = .returned (.bool b) ∧ w' = w := (time_any n w b hb).mono fun _ _ h => ⟨h.1, h.2.symm⟩
theorem rtime_same (n : Int) (w : World) (b : Bool) (hb : timeB n = b) : Calls Try.prog 58 #[.int .i64 n] w fun e w' => e = .returned (.bool b) ∧ w' = w := (rtime_any n w b hb).mono fun _ _ h => ⟨h.1, h.2.symm⟩
theorem contains_any (li : List Inp) (v : Value) (w : World) (hv : Row Inp.cs 2 w v li) (hl : li.length ≤ 1000000) :
    Calls Try.prog 56 #[v, .func (.func 57) #[] #[]] w fun e w' => e = .returned (.bool (!inputsB li)) ∧ Below w.heap.size w w' := by
  have HC := Lib.hid (fun W hW => index_any li v W hW hl)
  have HV := Lib.hid hv
  clear hv
  go_enter Try.func56, Try.ntmps56
  go_wp2_with fail
  refine (HC.out _ HV.out).mono ?_
  rintro e w1 ⟨r, rfl, hr, hb⟩
  have HB := Lib.hid hb
  have HR := Lib.hid hr
  clear hb hr
  go_wp2_with fail
  go_ret
  exact ⟨by rw [← HR.out]; rfl, HB.out⟩
theorem holdAt_get {l : List Hld} {k : Nat} {x : Hld} (h : l[k]? = some x) : l[k]! = x := by rw [List.getElem!_eq_getElem?_getD, h]; rfl
theorem inAt_get {l : List Inp} {k : Nat} {x : Inp} (h : l[k]? = some x) : l[k]! = x := by rw [List.getElem!_eq_getElem?_getD, h]; rfl
def HRel (lh : List Hld) (W1 : World) (i : Value) (wr : World) : Prop := ∃ k : Nat, k ≤ lh.length ∧ i = .int .i64 k ∧ (List.range k).all (holdAt lh) = true ∧ Below W1.heap.size W1 wr
def IRel (li : List Inp) (W1 : World) (i : Value) (wr : World) : Prop := ∃ k : Nat, k ≤ li.length ∧ i = .int .i64 k ∧ (List.range k).all (inAt li) = true ∧ Below W1.heap.size W1 wr

set_option maxHeartbeats 4000000 in
set_option maxRecDepth 100000 in
theorem mright_any (li : List Inp) (lh : List Hld) (o : Int) (v : Value) (w : World) (h : MarksAt w v li lh o) (b : Bool) (hb : rightM li lh o = b) :
    Calls Try.prog 24 #[v] w fun e w' => e = .returned (.bool b) ∧ Below w.heap.size w w' := by
  obtain ⟨vi, vh, rfl, hi, hh, -, -, -, l1, l2⟩ := h
  have HI := Lib.hid hi
  have HH := Lib.hid hh
  obtain ⟨A, c, rfl, hc, -⟩ := hi
  obtain ⟨A', c', rfl, hc', -⟩ := hh
  obtain ⟨n, hn⟩ : ∃ n, li.length = n := ⟨_, rfl⟩
  obtain ⟨m, hm⟩ : ∃ m, lh.length = m := ⟨_, rfl⟩
  rw [hn] at hc HI l1 ⊢
  rw [hm] at hc' HH l2 ⊢
  unfold maxLen at l1 l2
  unfold rightM at hb
  rw [hn, hm] at hb
  have Hn := Lib.hid hn
  have Hm := Lib.hid hm
  clear hn hm
  obtain ⟨q, hq⟩ : ∃ q, timeB o = q := ⟨_, rfl⟩
  rw [hq] at hb
  have HT := Lib.hid (fun W => time_any o W q hq)
  clear hq
  by_cases h1 : 1 ≤ n
  rotate_left
  · simp [h1] at hb
    subst hb
    go_enter Try.func24, Try.ntmps24
    go_wp2_with fail
    go_ret
    exact ⟨rfl, bel_alloc (Below.refl _ _) _⟩
  by_cases h2 : n ≤ 8
  rotate_left
  · simp [h1, h2] at hb
    subst hb
    go_enter Try.func24, Try.ntmps24
    go_wp2_with fail
    go_ret
    exact ⟨rfl, bel_alloc (Below.refl _ _) _⟩
  by_cases h3 : m ≤ 32
  rotate_left
  · simp [h1, h2, h3] at hb
    subst hb
    go_enter Try.func24, Try.ntmps24
    go_wp2_with fail
    go_ret
    exact ⟨rfl, bel_alloc (Below.refl _ _) _⟩
  cases q with
  | false =>
    simp [h1, h2, h3] at hb
    subst hb
    go_enter Try.func24, Try.ntmps24
    go_wp2_with fail
    refine (HT.out _).mono ?_
    rintro e w1 ⟨rfl, rfl⟩
    go_wp2_with fail
    go_ret
    exact ⟨rfl, bel_alloc (Below.refl _ _) _⟩
  | true =>
    simp only [h1, h2, h3, decide_true, Bool.and_true, Bool.true_and] at hb
    have HB0 := Lib.hid hb
    clear hb
    go_enter Try.func24, Try.ntmps24
    go_wp2_with fail
    refine (HT.out _).mono ?_
    rintro e w1 ⟨rfl, rfl⟩
    obtain ⟨W1, hW1⟩ : ∃ W1, W1 = w.alloc (.cells #[.slice A n c, .slice A' m c', .int .i64 o] 25) := ⟨_, rfl⟩
    rw [← hW1]
    have K1 := Lib.hid (show W1.heap[w.heap.size]? = some (.cells #[.slice A n c, .slice A' m c', .int .i64 o] 25 (0, 0)) by rw [hW1]; exact heap_alloc_new w _)
    have RI := Lib.hid (show Row Inp.cs 2 W1 (.slice A n c) li by rw [hW1]; exact HI.out.alloc _)
    have RH := Lib.hid (show Row Hld.cs 2 W1 (.slice A' m c') lh by rw [hW1]; exact HH.out.alloc _)
    have BW := Lib.hid (show Below w.heap.size w W1 by rw [hW1]; exact bel_alloc (Below.refl _ _) _)
    have hz0 := blk_lt K1.out
    have c0 := cellsAt K1.out 0
    have c1 := cellsAt K1.out 1
    simp at c0 c1
    clear hW1 HI HH HT
    go_wp2_with fail
    go_loopw [30] (fun i wr => HRel lh W1 i wr) (fun i _ => m - (intOf i).toNat)
    case atStart => exact ⟨0, Nat.zero_le _, rfl, rfl, Below.refl _ _⟩
    case round =>
      obtain ⟨k, hk, rfl, hall, hbel⟩ := hrel
      rw [Hm.out] at hk
      have HB := Lib.hid hbel
      have HL := Lib.hid hall
      have hz := hbel.size
      have hzz : w.heap.size < wr.heap.size := by omega
      have d0 := (HB.out.cell (p := ⟨w.heap.size, 0, none⟩) hz0).trans c0
      have d1 := (HB.out.cell (p := ⟨w.heap.size, 1, none⟩) hz0).trans c1
      clear hbel hall
      by_cases hlt : k < m
      · obtain ⟨x, hi⟩ : ∃ x, lh[k]? = some x := ⟨_, List.getElem?_eq_getElem (by rw [Hm.out]; exact hlt)⟩
        obtain ⟨b1, o1, c2, hv, -, hb1, hX⟩ := RH.out.at_ hi
        injection hv with hv hv2 hv3
        subst hv
        clear hv2 hv3
        have hb1r : b1 < wr.heap.size := by omega
        have e0 := (HB.out.cell (p := ⟨b1, o1 + k * 2 + 0, none⟩) hb1).trans (hX 0 _ rfl)
        have e1 := (HB.out.cell (p := ⟨b1, o1 + k * 2 + 1, none⟩) hb1).trans (hX 1 _ rfl)
        have hxk : holdAt lh k = (decide (0 ≤ x.no) && (timeB x.at_ && (decide (k = 0) || decide (lh[k - 1]!.no < x.no)))) := by unfold holdAt; rw [holdAt_get hi]
        clear hX
        have HI1 := Lib.hid hi
        clear hi
        obtain ⟨xn, xa⟩ := x
        simp only [Nat.add_zero] at e0 e1 hxk
        obtain ⟨q, hq⟩ : ∃ q, timeB xa = q := ⟨_, rfl⟩
        have HP := Lib.hid (fun W => time_same xa W q hq)
        rw [hq] at hxk
        clear hq
        by_cases hn0 : 0 ≤ xn
        rotate_left
        · rw [decide_eq_false hn0, Bool.false_and] at hxk
          have HX := Lib.hid hxk
          clear hxk
          have hneg : xn < 0 := by omega
          have hd : decide (xn < 0) = true := by simpa using hneg
          go_wp2_with fail
          go_quiet (fail)
          go_wp2_with fail
          go_ret
          exact ⟨by rw [← HB0.out]; unfold holdsB; rw [all_range_not (holdAt lh) (by rw [Hm.out]; exact hlt) HX.out]; rfl, bThen BW.out (bDrewN (bel_alloc HB.out _))⟩
        rw [decide_eq_true hn0, Bool.true_and] at hxk
        have hd : decide (xn < 0) = false := by simp; omega
        cases q with
        | false =>
          rw [Bool.false_and] at hxk
          have HX := Lib.hid hxk
          clear hxk
          go_wp2_with fail
          go_quiet ((go_at_call 55; exact Calls.quiet_of_same (HP.out _)))
          go_wp2_with fail
          go_ret
          exact ⟨by rw [← HB0.out]; unfold holdsB; rw [all_range_not (holdAt lh) (by rw [Hm.out]; exact hlt) HX.out]; rfl, bThen BW.out (bDrewN (bel_alloc HB.out _))⟩
        | true =>
          rw [Bool.true_and] at hxk
          by_cases hk0 : k = 0
          · subst hk0
            simp only [Nat.zero_mul, Nat.add_zero] at e0 e1
            have HX : holdAt lh 0 = true := by rw [hxk]; rfl
            have HX := Lib.hid HX
            clear hxk
            go_wp2_with fail
            go_quiet ((go_at_call 55; exact Calls.quiet_of_same (HP.out _)))
            go_wp2_with fail
            go_roundw
            case rel => exact ⟨0 + 1, by rw [Hm.out]; omega, by go_num, by rw [all_range_succ, HL.out, HX.out]; rfl, bDrewN (bel_alloc HB.out _)⟩
            case measure => simp [intOf]; omega
          · obtain ⟨j, rfl⟩ : ∃ j, k = j + 1 := ⟨k - 1, by omega⟩
            obtain ⟨y, hj⟩ : ∃ y, lh[j]? = some y := ⟨_, List.getElem?_eq_getElem (by rw [Hm.out]; omega)⟩
            obtain ⟨b3, o3, c4, hv, -, -, hY⟩ := RH.out.at_ hj
            injection hv with hv hv2 hv3
            injection hv with hv
            injection hv with hv4 hv5 hv6
            subst hv4 hv5
            clear hv2 hv3 hv6
            have g0 := (HB.out.cell (p := ⟨b1, o1 + j * 2 + 0, none⟩) hb1).trans (hY 0 _ rfl)
            simp only [Nat.add_zero] at g0
            rw [show (decide (j + 1 = 0)) = false from rfl, Bool.false_or, Nat.add_sub_cancel, holdAt_get hj] at hxk
            clear hY hj
            obtain ⟨yn, ya⟩ := y
            simp only at g0 hxk
            by_cases hlt3 : yn < xn
            · have HX : holdAt lh (j + 1) = true := by rw [hxk]; simpa using hlt3
              have HX := Lib.hid HX
              clear hxk
              have hge : decide (xn ≤ yn) = false := by simpa using hlt3
              go_wp2_with fail
              go_quiet ((go_at_call 55; exact Calls.quiet_of_same (HP.out _)))
              go_wp2_with fail
              go_roundw
              case rel => exact ⟨j + 1 + 1, by rw [Hm.out]; omega, by go_num, by rw [all_range_succ, HL.out, HX.out]; rfl, bDrewN (bel_alloc HB.out _)⟩
              case measure => simp [intOf]; omega
            · have HX : holdAt lh (j + 1) = false := by rw [hxk]; simpa using hlt3
              have HX := Lib.hid HX
              clear hxk
              have hge : decide (xn ≤ yn) = true := by simp; omega
              go_wp2_with fail
              go_quiet ((go_at_call 55; exact Calls.quiet_of_same (HP.out _)))
              go_wp2_with fail
              go_ret
              exact ⟨by rw [← HB0.out]; unfold holdsB; rw [all_range_not (holdAt lh) (by rw [Hm.out]; exact hlt) HX.out]; rfl, bThen BW.out (bDrewN (bel_alloc HB.out _))⟩
      · have hkm : k = m := by omega
        subst hkm
        go_wp2_with fail
        refine (contains_any li _ _ (RI.out.below HB.out) (by rw [Hn.out]; omega)).mono ?_
        rintro e w2 ⟨rfl, hb⟩
        have HB2 := Lib.hid (bThen HB.out hb)
        clear hb d0 d1
        go_wp2_with fail
        go_ret
        exact ⟨by rw [← HB0.out]; unfold holdsB; rw [Hm.out, HL.out]; simp, bThen BW.out HB2.out⟩
set_option maxHeartbeats 4000000 in
set_option maxRecDepth 100000 in
theorem rmright_any (li : List Inp) (lh : List Hld) (o : Int) (v : Value) (w : World) (h : MarksAt w v li lh o) (b : Bool) (hb : rightM li lh o = b) :
    Calls Try.prog 25 #[v] w fun e w' => e = .returned (.bool b) ∧ Below w.heap.size w w' := by
  obtain ⟨vi, vh, rfl, hi, hh, -, -, -, l1, l2⟩ := h
  have HI := Lib.hid hi
  have HH := Lib.hid hh
  obtain ⟨A, c, rfl, hc, -⟩ := hi
  obtain ⟨A', c', rfl, hc', -⟩ := hh
  obtain ⟨n, hn⟩ : ∃ n, li.length = n := ⟨_, rfl⟩
  obtain ⟨m, hm⟩ : ∃ m, lh.length = m := ⟨_, rfl⟩
  rw [hn] at hc HI l1 ⊢
  rw [hm] at hc' HH l2 ⊢
  unfold maxLen at l1 l2
  unfold rightM at hb
  rw [hn, hm] at hb
  have Hn := Lib.hid hn
  have Hm := Lib.hid hm
  clear hn hm
  obtain ⟨q, hq⟩ : ∃ q, timeB o = q := ⟨_, rfl⟩
  rw [hq] at hb
  have HT := Lib.hid (fun W => rtime_any o W q hq)
  clear hq
  by_cases h1 : 1 ≤ n
  rotate_left
  · simp [h1] at hb
    subst hb
    go_enter Try.func25, Try.ntmps25
    go_wp2_with fail
    go_ret
    exact ⟨rfl, bel_alloc (Below.refl _ _) _⟩
  by_cases h2 : n ≤ 8
  rotate_left
  · simp [h1, h2] at hb
    subst hb
    go_enter Try.func25, Try.ntmps25
    go_wp2_with fail
    go_ret
    exact ⟨rfl, bel_alloc (Below.refl _ _) _⟩
  by_cases h3 : m ≤ 32
  rotate_left
  · simp [h1, h2, h3] at hb
    subst hb
    go_enter Try.func25, Try.ntmps25
    go_wp2_with fail
    go_ret
    exact ⟨rfl, bel_alloc (Below.refl _ _) _⟩
  cases q with
  | false =>
    simp [h1, h2, h3] at hb
    subst hb
    go_enter Try.func25, Try.ntmps25
    go_wp2_with fail
    refine (HT.out _).mono ?_
    rintro e w1 ⟨rfl, rfl⟩
    go_wp2_with fail
    go_ret
    exact ⟨rfl, bel_alloc (Below.refl _ _) _⟩
  | true =>
    simp only [h1, h2, h3, decide_true, Bool.and_true, Bool.true_and] at hb
    have HB0 := Lib.hid hb
    clear hb
    go_enter Try.func25, Try.ntmps25
    go_wp2_with fail
    refine (HT.out _).mono ?_
    rintro e w1 ⟨rfl, rfl⟩
    obtain ⟨W1, hW1⟩ : ∃ W1, W1 = w.alloc (.cells #[.slice A n c, .slice A' m c', .int .i64 o] 25) := ⟨_, rfl⟩
    rw [← hW1]
    have K1 := Lib.hid (show W1.heap[w.heap.size]? = some (.cells #[.slice A n c, .slice A' m c', .int .i64 o] 25 (0, 0)) by rw [hW1]; exact heap_alloc_new w _)
    have RI := Lib.hid (show Row Inp.cs 2 W1 (.slice A n c) li by rw [hW1]; exact HI.out.alloc _)
    have RH := Lib.hid (show Row Hld.cs 2 W1 (.slice A' m c') lh by rw [hW1]; exact HH.out.alloc _)
    have BW := Lib.hid (show Below w.heap.size w W1 by rw [hW1]; exact bel_alloc (Below.refl _ _) _)
    have hz0 := blk_lt K1.out
    have c0 := cellsAt K1.out 0
    have c1 := cellsAt K1.out 1
    simp at c0 c1
    clear hW1 HI HH HT
    go_wp2_with fail
    go_loopw [32] (fun i wr => IRel li W1 i wr) (fun i _ => n - (intOf i).toNat)
    case atStart => exact ⟨0, Nat.zero_le _, rfl, rfl, Below.refl _ _⟩
    case round =>
      obtain ⟨k, hk, rfl, hall, hbel⟩ := hrel
      rw [Hn.out] at hk
      have HB := Lib.hid hbel
      have HL := Lib.hid hall
      have hz := hbel.size
      have hzz : w.heap.size < wr.heap.size := by omega
      have d0 := (HB.out.cell (p := ⟨w.heap.size, 0, none⟩) hz0).trans c0
      have d1 := (HB.out.cell (p := ⟨w.heap.size, 1, none⟩) hz0).trans c1
      clear hbel hall
      by_cases hlt : k < n
      · obtain ⟨x, hi⟩ : ∃ x, li[k]? = some x := ⟨_, List.getElem?_eq_getElem (by rw [Hn.out]; exact hlt)⟩
        obtain ⟨b1, o1, c2, hv, -, hb1, hX⟩ := RI.out.at_ hi
        injection hv with hv hv2 hv3
        subst hv
        clear hv2 hv3
        have e0 := (HB.out.cell (p := ⟨b1, o1 + k * 2 + 0, none⟩) hb1).trans (hX 0 _ rfl)
        have e1 := (HB.out.cell (p := ⟨b1, o1 + k * 2 + 1, none⟩) hb1).trans (hX 1 _ rfl)
        have hxk : inAt li k = timeB x.mark := by unfold inAt; rw [inAt_get hi]
        clear hX hi
        obtain ⟨xm, xi⟩ := x
        simp only [Nat.add_zero] at e0 e1 hxk
        obtain ⟨q, hq⟩ : ∃ q, timeB xm = q := ⟨_, rfl⟩
        have HP := Lib.hid (fun W => rtime_any xm W q hq)
        rw [hq] at hxk
        have HX := Lib.hid hxk
        clear hxk hq
        go_wp2_with fail
        refine (HP.out _).mono ?_
        rintro e w2 ⟨rfl, rfl⟩
        cases q with
        | true =>
          go_wp2_with fail
          go_roundw
          case rel => exact ⟨k + 1, by rw [Hn.out]; omega, by go_num, by rw [all_range_succ, HL.out, HX.out]; rfl, bel_alloc HB.out _⟩
          case measure => simp [intOf]; omega
        | false =>
          go_wp2_with fail
          go_ret
          exact ⟨by rw [← HB0.out]; unfold inputsB; rw [all_range_not (inAt li) (by rw [Hn.out]; exact hlt) HX.out]; simp, bThen BW.out (bel_alloc HB.out _)⟩
      · have hkn : k = n := by omega
        subst hkn
        have HBI := Lib.hid HB.out
        have HLI := Lib.hid HL.out
        clear HL HB
        go_wp2_with fail
        go_loopw [44] (fun i wr => HRel lh W1 i wr) (fun i _ => m - (intOf i).toNat)
        case atStart => exact ⟨0, Nat.zero_le _, rfl, rfl, HBI.out⟩
        case round =>
          obtain ⟨k, hk, rfl, hall, hbel⟩ := hrel
          rw [Hm.out] at hk
          have HB := Lib.hid hbel
          have HL := Lib.hid hall
          have hz := hbel.size
          have hzz : w.heap.size < wr.heap.size := by omega
          have d0 := (HB.out.cell (p := ⟨w.heap.size, 0, none⟩) hz0).trans c0
          have d1 := (HB.out.cell (p := ⟨w.heap.size, 1, none⟩) hz0).trans c1
          clear hbel hall
          by_cases hlt : k < m
          · obtain ⟨x, hi⟩ : ∃ x, lh[k]? = some x := ⟨_, List.getElem?_eq_getElem (by rw [Hm.out]; exact hlt)⟩
            obtain ⟨b1, o1, c2, hv, -, hb1, hX⟩ := RH.out.at_ hi
            injection hv with hv hv2 hv3
            subst hv
            clear hv2 hv3
            have hb1r : b1 < wr.heap.size := by omega
            have e0 := (HB.out.cell (p := ⟨b1, o1 + k * 2 + 0, none⟩) hb1).trans (hX 0 _ rfl)
            have e1 := (HB.out.cell (p := ⟨b1, o1 + k * 2 + 1, none⟩) hb1).trans (hX 1 _ rfl)
            have hxk : holdAt lh k = (decide (0 ≤ x.no) && (timeB x.at_ && (decide (k = 0) || decide (lh[k - 1]!.no < x.no)))) := by unfold holdAt; rw [holdAt_get hi]
            clear hX
            have HI1 := Lib.hid hi
            clear hi
            obtain ⟨xn, xa⟩ := x
            simp only [Nat.add_zero] at e0 e1 hxk
            obtain ⟨q, hq⟩ : ∃ q, timeB xa = q := ⟨_, rfl⟩
            have HP := Lib.hid (fun W => rtime_same xa W q hq)
            rw [hq] at hxk
            clear hq
            by_cases hn0 : 0 ≤ xn
            rotate_left
            · rw [decide_eq_false hn0, Bool.false_and] at hxk
              have HX := Lib.hid hxk
              clear hxk
              have hneg : xn < 0 := by omega
              have hd : decide (xn < 0) = true := by simpa using hneg
              go_wp2_with fail
              go_quiet (fail)
              go_wp2_with fail
              go_ret
              exact ⟨by rw [← HB0.out]; unfold holdsB; rw [all_range_not (holdAt lh) (by rw [Hm.out]; exact hlt) HX.out]; rfl, bThen BW.out (bDrewN (bel_alloc HB.out _))⟩
            rw [decide_eq_true hn0, Bool.true_and] at hxk
            have hd : decide (xn < 0) = false := by simp; omega
            cases q with
            | false =>
              rw [Bool.false_and] at hxk
              have HX := Lib.hid hxk
              clear hxk
              go_wp2_with fail
              go_quiet ((go_at_call 58; exact Calls.quiet_of_same (HP.out _)))
              go_wp2_with fail
              go_ret
              exact ⟨by rw [← HB0.out]; unfold holdsB; rw [all_range_not (holdAt lh) (by rw [Hm.out]; exact hlt) HX.out]; rfl, bThen BW.out (bDrewN (bel_alloc HB.out _))⟩
            | true =>
              rw [Bool.true_and] at hxk
              by_cases hk0 : k = 0
              · subst hk0
                simp only [Nat.zero_mul, Nat.add_zero] at e0 e1
                have HX : holdAt lh 0 = true := by rw [hxk]; rfl
                have HX := Lib.hid HX
                clear hxk
                go_wp2_with fail
                go_quiet ((go_at_call 58; exact Calls.quiet_of_same (HP.out _)))
                go_wp2_with fail
                go_roundw
                case rel => exact ⟨0 + 1, by rw [Hm.out]; omega, by go_num, by rw [all_range_succ, HL.out, HX.out]; rfl, bDrewN (bel_alloc HB.out _)⟩
                case measure => simp [intOf]; omega
              · obtain ⟨j, rfl⟩ : ∃ j, k = j + 1 := ⟨k - 1, by omega⟩
                obtain ⟨y, hj⟩ : ∃ y, lh[j]? = some y := ⟨_, List.getElem?_eq_getElem (by rw [Hm.out]; omega)⟩
                obtain ⟨b3, o3, c4, hv, -, -, hY⟩ := RH.out.at_ hj
                injection hv with hv hv2 hv3
                injection hv with hv
                injection hv with hv4 hv5 hv6
                subst hv4 hv5
                clear hv2 hv3 hv6
                have g0 := (HB.out.cell (p := ⟨b1, o1 + j * 2 + 0, none⟩) hb1).trans (hY 0 _ rfl)
                simp only [Nat.add_zero] at g0
                rw [show (decide (j + 1 = 0)) = false from rfl, Bool.false_or, Nat.add_sub_cancel, holdAt_get hj] at hxk
                clear hY hj
                obtain ⟨yn, ya⟩ := y
                simp only at g0 hxk
                by_cases hlt3 : yn < xn
                · have HX : holdAt lh (j + 1) = true := by rw [hxk]; simpa using hlt3
                  have HX := Lib.hid HX
                  clear hxk
                  have hge : decide (xn ≤ yn) = false := by simpa using hlt3
                  go_wp2_with fail
                  go_quiet ((go_at_call 58; exact Calls.quiet_of_same (HP.out _)))
                  go_wp2_with fail
                  go_roundw
                  case rel => exact ⟨j + 1 + 1, by rw [Hm.out]; omega, by go_num, by rw [all_range_succ, HL.out, HX.out]; rfl, bDrewN (bel_alloc HB.out _)⟩
                  case measure => simp [intOf]; omega
                · have HX : holdAt lh (j + 1) = false := by rw [hxk]; simpa using hlt3
                  have HX := Lib.hid HX
                  clear hxk
                  have hge : decide (xn ≤ yn) = true := by simp; omega
                  go_wp2_with fail
                  go_quiet ((go_at_call 58; exact Calls.quiet_of_same (HP.out _)))
                  go_wp2_with fail
                  go_ret
                  exact ⟨by rw [← HB0.out]; unfold holdsB; rw [all_range_not (holdAt lh) (by rw [Hm.out]; exact hlt) HX.out]; rfl, bThen BW.out (bDrewN (bel_alloc HB.out _))⟩
          · have hkm : k = m := by omega
            subst hkm
            go_wp2_with fail
            go_ret
            exact ⟨by rw [← HB0.out]; unfold holdsB inputsB; rw [Hm.out, HL.out, Hn.out, HLI.out]; rfl, bThen BW.out HB.out⟩
end Go.Proofs.Ytdanfeldbdooeaa
