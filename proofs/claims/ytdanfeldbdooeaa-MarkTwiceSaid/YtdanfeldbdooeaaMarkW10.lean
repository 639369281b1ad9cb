/-
  WALKS of layer 10: the reference's Allows and Tell.
-/
import Derived.Test.YtdanfeldbdooeaaMarkW9
set_option linter.unusedVariables false
set_option linter.unusedSimpArgs false
namespace Go.Proofs.Ytdanfeldbdooeaa
open Go.RowKit

def lstep (a t : Int) : Int := if a < 0 ∨ t < a then t else a
def leastT (l : List Int) : Int := l.foldl lstep (-1)
theorem leastT_snoc (l : List Int) (t : Int) : leastT (l ++ [t]) = lstep (leastT l) t := by unfold leastT; rw [List.foldl_append]; rfl
def allowsM (li : List Inp) (lh : List Hld) (o : Int) : Int := if leastT (tellL li lh) < 0 then o else leastT (tellL li lh)
theorem least_min : ∀ (l : List Int) (a : Int), 0 ≤ a → (∀ t ∈ l, 0 ≤ t ∧ t ≤ 1099511627776) → l.foldl lstep a = l.foldl (fun a t => min a (clampT t)) a
  | [], _, _, _ => rfl
  | t :: l, a, h0, h => by
    have ht := h t (by simp)
    have e : lstep a t = min a (clampT t) := by unfold lstep clampT; split <;> omega
    rw [List.foldl_cons, List.foldl_cons, e]
    exact least_min l _ (by unfold clampT; omega) (fun x hx => h x (by simp [hx]))
theorem least_first (l : List Int) (hl : 0 < l.length) (h : ∀ t ∈ l, 0 ≤ t ∧ t ≤ 1099511627776) : leastT l = firstT l := by
  match l, hl with
  | t :: l, _ =>
    have ht := h t (by simp)
    unfold leastT firstT
    rw [List.foldl_cons, List.foldl_cons, show lstep (-1) t = t by unfold lstep; simp, show min 1099511627776 (clampT t) = t by unfold clampT; omega]
    exact least_min l _ ht.1 (fun x hx => h x (by simp [hx]))
theorem timeB_rng {t : Int} (h : timeB t = true) : 0 ≤ t ∧ t ≤ 1099511627776 := by unfold timeB at h; simp at h; exact h
theorem right_times {li : List Inp} {lh : List Hld} {o : Int} (h : rightM li lh o = true) : ∀ t ∈ tellL li lh, 0 ≤ t ∧ t ≤ 1099511627776 := by
  unfold rightM at h
  simp only [Bool.and_eq_true] at h
  obtain ⟨-, hh, hi⟩ := h
  intro t ht
  unfold tellL at ht
  rcases List.mem_append.1 ht with ht | ht
  · unfold backI at ht
    obtain ⟨x, hx, rfl⟩ := List.mem_map.1 ht
    have hx := (List.mem_filter.1 hx).1
    obtain ⟨k, hk⟩ := List.getElem?_of_mem hx
    have hlt := (List.getElem?_eq_some_iff.1 hk).1
    have := List.all_eq_true.1 hi k (List.mem_range.2 hlt)
    unfold inAt at this
    rw [inAt_get hk] at this
    exact timeB_rng this
  · unfold backH at ht
    obtain ⟨x, hx, rfl⟩ := List.mem_map.1 ht
    obtain ⟨k, hk⟩ := List.getElem?_of_mem hx
    have hlt := (List.getElem?_eq_some_iff.1 hk).1
    have := List.all_eq_true.1 hh k (List.mem_range.2 hlt)
    unfold holdAt at this
    rw [holdAt_get hk] at this
    simp only [Bool.and_eq_true] at this
    exact timeB_rng this.2.1
theorem allows_out {li : List Inp} {lh : List Hld} {o : Int} (h : rightM li lh o = true) : (laterM li lh o = true ∧ ¬ allowsM li lh o ≤ o ∧ outM li lh o = allowsM li lh o) ∨ (laterM li lh o = false ∧ allowsM li lh o ≤ o ∧ outM li lh o = o) := by
  have ht := right_times h
  have hr := firstT_rng (tellL li lh)
  unfold outM laterM allowsM
  by_cases hl : 0 < (tellL li lh).length
  · rw [least_first _ hl ht, if_neg (by omega)]
    by_cases ho : o < firstT (tellL li lh)
    · left; simp [hl, ho]
    · right; simp [ho]; omega
  · have e : tellL li lh = [] := List.eq_nil_of_length_eq_zero (by omega)
    right
    rw [e]
    simp [leastT]
def AlIRel (li : List Inp) (W1 : World) (v i : Value) (wr : World) : Prop := ∃ k : Nat, k ≤ li.length ∧ i = .int .i64 k ∧ v = .int .i64 (leastT (backI (li.take k))) ∧ Below W1.heap.size W1 wr
def AlHRel (li : List Inp) (lh : List Hld) (W1 : World) (v i : Value) (wr : World) : Prop := ∃ k : Nat, k ≤ lh.length ∧ i = .int .i64 k ∧ v = .int .i64 (leastT (backI li ++ backH (lh.take k))) ∧ Below W1.heap.size W1 wr
set_option maxHeartbeats 4000000 in
set_option maxRecDepth 100000 in
theorem allows_any (li : List Inp) (lh : List Hld) (o : Int) (v : Value) (w : World) (h : MarksAt w v li lh o) (l1 : li.length ≤ 1000000) (l2 : lh.length ≤ 1000000) :
    Calls Try.prog 59 #[v] w fun e w' => e = .returned (.int .i64 (allowsM li lh o)) ∧ Below w.heap.size w w' := by
  obtain ⟨vi, vh, rfl, hi, hh, -⟩ := h
  have HI := Lib.hid hi
  have HH := Lib.hid hh
  obtain ⟨A, c, rfl, hc, -⟩ := hi
  obtain ⟨A', c', rfl, hc', -⟩ := hh
  obtain ⟨n, hn⟩ : ∃ n, li.length = n := ⟨_, rfl⟩
  obtain ⟨m, hm⟩ : ∃ m, lh.length = m := ⟨_, rfl⟩
  rw [hn] at hc HI l1 ⊢
  rw [hm] at hc' HH l2 ⊢
  have Hn := Lib.hid hn
  have Hm := Lib.hid hm
  clear hn hm
  go_enter Try.func59, Try.ntmps59
  go_wp2_with fail
  obtain ⟨W1, hW1⟩ : ∃ W1, W1 = w.alloc (.cells #[.slice A n c, .slice A' m c', .int .i64 o] 25) := ⟨_, rfl⟩
  rw [← hW1]
  have K1 := Lib.hid (show W1.heap[w.heap.size]? = some (.cells #[.slice A n c, .slice A' m c', .int .i64 o] 25 (0, 0)) by rw [hW1]; exact heap_alloc_new w _)
  have RI := Lib.hid (show Row Inp.cs 2 W1 (.slice A n c) li by rw [hW1]; exact HI.out.alloc _)
  have RH := Lib.hid (show Row Hld.cs 2 W1 (.slice A' m c') lh by rw [hW1]; exact HH.out.alloc _)
  have BW := Lib.hid (show Below w.heap.size w W1 by rw [hW1]; exact bel_alloc (Below.refl _ _) _)
  have hz0 := blk_lt K1.out
  have c0 := cellsAt K1.out 0
  have c1 := cellsAt K1.out 1
  have c2 := cellsAt K1.out 2
  simp at c0 c1 c2
  clear hW1 HI HH
  go_wp2_with fail
  go_loopw [3, 11] (fun v i wr => AlIRel li W1 v i wr) (fun _ i _ => n - (intOf i).toNat)
  case atStart => exact ⟨0, Nat.zero_le _, rfl, rfl, Below.refl _ _⟩
  case round =>
    obtain ⟨k, hk, rfl, rfl, hbel⟩ := hrel
    rw [Hn.out] at hk
    have HB := Lib.hid hbel
    have d0 := (HB.out.cell (p := ⟨w.heap.size, 0, none⟩) hz0).trans c0
    have d1 := (HB.out.cell (p := ⟨w.heap.size, 1, none⟩) hz0).trans c1
    clear hbel
    by_cases hlt : k < n
    · obtain ⟨x, hi⟩ : ∃ x, li[k]? = some x := ⟨_, List.getElem?_eq_getElem (by rw [Hn.out]; exact hlt)⟩
      obtain ⟨b1, o1, c3, hv, -, hb1, hX⟩ := RI.out.at_ hi
      injection hv with hv hv2 hv3
      subst hv
      clear hv2 hv3
      have e0 := (HB.out.cell (p := ⟨b1, o1 + k * 2 + 0, none⟩) hb1).trans (hX 0 _ rfl)
      have e1 := (HB.out.cell (p := ⟨b1, o1 + k * 2 + 1, none⟩) hb1).trans (hX 1 _ rfl)
      have hst : leastT (backI (li.take (k + 1))) = if x.idle then leastT (backI (li.take k)) else lstep (leastT (backI (li.take k))) x.mark := by
        rw [take_snoc hi, backI_snoc]
        cases x.idle
        · simp only [Bool.false_eq_true, if_false]; exact leastT_snoc _ _
        · simp
      clear hX hi
      obtain ⟨xm, xi⟩ := x
      simp only [Nat.add_zero] at e0 e1 hst
      obtain ⟨L, hL⟩ : ∃ L, leastT (backI (li.take k)) = L := ⟨_, rfl⟩
      rw [hL] at hst ⊢
      unfold lstep at hst
      clear hL
      cases xi with
      | true =>
        have HS := Lib.hid hst
        clear hst
        go_wp2_with fail
        go_roundw
        case rel => exact ⟨k + 1, by rw [Hn.out]; omega, by go_num, by rw [HS.out]; rfl, bel_alloc HB.out _⟩
        case measure => simp [intOf]; omega
      | false =>
        by_cases hL0 : L < 0
        · have HS : leastT (backI (li.take (k + 1))) = xm := by rw [hst]; simp [hL0]
          have HS := Lib.hid HS
          clear hst
          go_wp2_with fail
          go_roundw
          case rel => exact ⟨k + 1, by rw [Hn.out]; omega, by go_num, by rw [HS.out], bel_alloc HB.out _⟩
          case measure => simp [intOf]; omega
        · by_cases hx : xm < L
          · have HS : leastT (backI (li.take (k + 1))) = xm := by rw [hst]; simp [hx]
            have HS := Lib.hid HS
            clear hst
            go_wp2_with fail
            go_roundw
            case rel => exact ⟨k + 1, by rw [Hn.out]; omega, by go_num, by rw [HS.out], bel_alloc HB.out _⟩
            case measure => simp [intOf]; omega
          · have HS : leastT (backI (li.take (k + 1))) = L := by rw [hst]; simp [hx, hL0]
            have HS := Lib.hid HS
            clear hst
            go_wp2_with fail
            go_roundw
            case rel => exact ⟨k + 1, by rw [Hn.out]; omega, by go_num, by rw [HS.out], bel_alloc HB.out _⟩
            case measure => simp [intOf]; omega
    · have hkn : k = n := by omega
      subst hkn
      have htk : li.take k = li := List.take_of_length_le (by rw [Hn.out]; exact Nat.le_refl _)
      rw [htk]
      have HB0 := Lib.hid HB.out
      clear HB htk
      go_wp2_with fail
      go_loopw [3, 34] (fun v i wr => AlHRel li lh W1 v i wr) (fun _ i _ => m - (intOf i).toNat)
      case atStart => exact ⟨0, Nat.zero_le _, rfl, by simp [backH], HB0.out⟩
      case round =>
        obtain ⟨k2, hk2, rfl, rfl, hbel⟩ := hrel
        rw [Hm.out] at hk2
        have HB := Lib.hid hbel
        have d1 := (HB.out.cell (p := ⟨w.heap.size, 1, none⟩) hz0).trans c1
        have d2 := (HB.out.cell (p := ⟨w.heap.size, 2, none⟩) hz0).trans c2
        clear hbel
        by_cases hlt2 : k2 < m
        · obtain ⟨x, hi⟩ : ∃ x, lh[k2]? = some x := ⟨_, List.getElem?_eq_getElem (by rw [Hm.out]; exact hlt2)⟩
          obtain ⟨b1, o1, c3, hv, -, hb1, hX⟩ := RH.out.at_ hi
          injection hv with hv hv2 hv3
          subst hv
          clear hv2 hv3
          have e0 := (HB.out.cell (p := ⟨b1, o1 + k2 * 2 + 0, none⟩) hb1).trans (hX 0 _ rfl)
          have e1 := (HB.out.cell (p := ⟨b1, o1 + k2 * 2 + 1, none⟩) hb1).trans (hX 1 _ rfl)
          have hst : leastT (backI li ++ backH (lh.take (k2 + 1))) = lstep (leastT (backI li ++ backH (lh.take k2))) x.at_ := by
            rw [take_snoc hi, backH_snoc, ← List.append_assoc]; exact leastT_snoc _ _
          clear hX hi
          obtain ⟨xn, xm⟩ := x
          simp only [Nat.add_zero] at e0 e1 hst
          obtain ⟨L, hL⟩ : ∃ L, leastT (backI li ++ backH (lh.take k2)) = L := ⟨_, rfl⟩
          rw [hL] at hst ⊢
          unfold lstep at hst
          clear hL
          by_cases hL0 : L < 0
          · have HS : leastT (backI li ++ backH (lh.take (k2 + 1))) = xm := by rw [hst]; simp [hL0]
            have HS := Lib.hid HS
            clear hst
            go_wp2_with fail
            go_roundw
            case rel => exact ⟨k2 + 1, by rw [Hm.out]; omega, by go_num, by rw [HS.out], bel_alloc HB.out _⟩
            case measure => simp [intOf]; omega
          · by_cases hx : xm < L
            · have HS : leastT (backI li ++ backH (lh.take (k2 + 1))) = xm := by rw [hst]; simp [hx]
              have HS := Lib.hid HS
              clear hst
              go_wp2_with fail
              go_roundw
              case rel => exact ⟨k2 + 1, by rw [Hm.out]; omega, by go_num, by rw [HS.out], bel_alloc HB.out _⟩
              case measure => simp [intOf]; omega
            · have HS : leastT (backI li ++ backH (lh.take (k2 + 1))) = L := by rw [hst]; simp [hx, hL0]
              have HS := Lib.hid HS
              clear hst
              go_wp2_with fail
              go_roundw
              case rel => exact ⟨k2 + 1, by rw [Hm.out]; omega, by go_num, by rw [HS.out], bel_alloc HB.out _⟩
              case measure => simp [intOf]; omega
        · have hkm : k2 = m := by omega
          subst hkm
          have htk : lh.take k2 = lh := List.take_of_length_le (by rw [Hm.out]; exact Nat.le_refl _)
          rw [htk]
          have HA : allowsM li lh o = if leastT (backI li ++ backH lh) < 0 then o else leastT (backI li ++ backH lh) := rfl
          obtain ⟨L, hL⟩ : ∃ L, leastT (backI li ++ backH lh) = L := ⟨_, rfl⟩
          rw [hL] at HA ⊢
          clear hL htk
          by_cases hL0 : L < 0
          · rw [if_pos hL0] at HA
            have HA := Lib.hid HA
            go_wp2_with fail
            go_ret
            exact ⟨by first | rfl | (rw [HA.out]; rfl), bThen BW.out HB.out⟩
          · rw [if_neg hL0] at HA
            have HA := Lib.hid HA
            go_wp2_with fail
            go_ret
            exact ⟨by first | rfl | (rw [HA.out]; rfl), bThen BW.out HB.out⟩
end Go.Proofs.Ytdanfeldbdooeaa
