/-
  WALKS of layer 18: which items may be; Contains of a row of bools.
-/
import Derived.Test.YtenpgkkefielfaaAlignW1
import Derived.Test.YtenpgkkefielfaaRowsPush
namespace Go.Proofs.Ytenpgkkefielfaa
open Go.RowKit

def iAt (l : List It) (j : Nat) : Bool := rightI l[j]!
def allI (l : List It) : Bool := (List.range l.length).all (iAt l)
set_option maxRecDepth 100000 in
theorem apred_any (r : It) (w : World) (b : Bool) (hb : rightI r = b) : Calls Try.prog 51 #[(itV r)] w fun e w' => e = .returned (.bool (!b)) ∧ Below w.heap.size w w' := by
  obtain ⟨i0, i1, i2, i3, i4, i5, i6, i7, i8, i9, i10⟩ := r
  have HR := Lib.hid (fun W => right_any _ W b hb)
  clear hb
  unfold itV at HR ⊢
  go_enter Try.func51, Try.ntmps51
  go_wp2_with fail
  refine (HR.out _).mono ?_
  rintro e w2 ⟨rfl, hb2⟩
  have HB2 := Lib.hid (belA (Below.refl _ _) hb2)
  clear hb2
  go_wp2_with fail
  go_ret
  exact ⟨rfl, HB2.out⟩
/-- What IndexFunc tells of results one of which may not be. -/
def AdxOf (l : List It) (w : World) (e : Ending) (w' : World) : Prop := ∃ r : Int, e = .returned (.int .i64 r) ∧ decide (0 ≤ r) = (!allI l) ∧ Below w.heap.size w w'
def AdxRel (l : List It) (w : World) (i : Value) (wr : World) : Prop := ∃ k : Nat, k ≤ l.length ∧ i = .int .i64 k ∧ (List.range k).all (iAt l) = true ∧ Below w.heap.size w wr
set_option maxHeartbeats 2000000 in
theorem aindex_any (li : List It) (v : Value) (w : World) (hv : Row It.cs 11 w v li) (hl : li.length ≤ 1000000) :
    Calls Try.prog 67 #[v, .func (.func 51) #[] #[]] w (AdxOf li w) := by
  have HV := Lib.hid hv
  obtain ⟨A, c, rfl, hc, hA⟩ := hv
  have HA := Lib.hid hA
  clear hA
  obtain ⟨n, hn⟩ : ∃ n, li.length = n := ⟨_, rfl⟩
  rw [hn] at hl hc HV ⊢
  have Hn := Lib.hid hn
  clear hn
  go_enter Try.func67, Try.ntmps67
  go_wp2_with fail
  go_loopw [8] (fun i wr => AdxRel li w i wr) (fun i _ => n - (intOf i).toNat)
  case atStart => exact ⟨0, Nat.zero_le _, rfl, rfl, Below.refl _ _⟩
  case round =>
    obtain ⟨k, hk, rfl, hall, hbel⟩ := hrel
    rw [Hn.out] at hk
    have HB := Lib.hid hbel
    have HL := Lib.hid hall
    clear hbel hall
    by_cases hlt : k < n
    · obtain ⟨x, hi⟩ : ∃ x, li[k]? = some x := ⟨_, List.getElem?_eq_getElem (by rw [Hn.out]; exact hlt)⟩
      obtain ⟨b, o, rfl, hb, hX⟩ := HA.out (by rw [Hn.out]; omega)
      have c0 := (HB.out.cell (p := ⟨b, o + k * 11 + 0, none⟩) hb).trans (hX k x 0 _ hi rfl)
      have c1 := (HB.out.cell (p := ⟨b, o + k * 11 + 1, none⟩) hb).trans (hX k x 1 _ hi rfl)
      have c2 := (HB.out.cell (p := ⟨b, o + k * 11 + 2, none⟩) hb).trans (hX k x 2 _ hi rfl)
      have c3 := (HB.out.cell (p := ⟨b, o + k * 11 + 3, none⟩) hb).trans (hX k x 3 _ hi rfl)
      have c4 := (HB.out.cell (p := ⟨b, o + k * 11 + 4, none⟩) hb).trans (hX k x 4 _ hi rfl)
      have c5 := (HB.out.cell (p := ⟨b, o + k * 11 + 5, none⟩) hb).trans (hX k x 5 _ hi rfl)
      have c6 := (HB.out.cell (p := ⟨b, o + k * 11 + 6, none⟩) hb).trans (hX k x 6 _ hi rfl)
      have c7 := (HB.out.cell (p := ⟨b, o + k * 11 + 7, none⟩) hb).trans (hX k x 7 _ hi rfl)
      have c8 := (HB.out.cell (p := ⟨b, o + k * 11 + 8, none⟩) hb).trans (hX k x 8 _ hi rfl)
      have c9 := (HB.out.cell (p := ⟨b, o + k * 11 + 9, none⟩) hb).trans (hX k x 9 _ hi rfl)
      have c10 := (HB.out.cell (p := ⟨b, o + k * 11 + 10, none⟩) hb).trans (hX k x 10 _ hi rfl)
      have hxk : iAt li k = rightI x := by unfold iAt; rw [List.getElem!_eq_getElem?_getD, hi]; rfl
      clear hX
      obtain ⟨i0, i1, i2, i3, i4, i5, i6, i7, i8, i9, i10⟩ := x
      simp only [Nat.add_zero] at c0 c1 c2 c3 c4 c5 c6 c7 c8 c9 c10 hxk
      obtain ⟨q, hq⟩ : ∃ q, rightI ⟨i0, i1, i2, i3, i4, i5, i6, i7, i8, i9, i10⟩ = q := ⟨_, rfl⟩
      have HP := Lib.hid (fun W => apred_any ⟨i0, i1, i2, i3, i4, i5, i6, i7, i8, i9, i10⟩ W q hq)
      unfold itV at HP
      rw [hq] at hxk
      have HX := Lib.hid hxk
      have HI := Lib.hid hi
      clear hxk hq hi
      go_wp2_with fail
      refine (HP.out _).mono ?_
      rintro e w2 ⟨rfl, hb2⟩
      have HB2 := Lib.hid (bThen HB.out hb2)
      clear hb2 HB c0 c1 c2 c3 c4 c5 c6 c7 c8 c9 c10
      cases q with
      | true =>
        go_wp2_with fail
        go_roundw
        case rel => exact ⟨k + 1, by rw [Hn.out]; omega, by go_num, by rw [all_range_succ, HL.out, HX.out]; rfl, HB2.out⟩
        case measure => simp [intOf]; omega
      | false =>
        go_wp2_with fail
        go_ret
        exact ⟨_, rfl, by unfold allI; rw [all_range_not (iAt li) (by rw [Hn.out]; exact hlt) HX.out]; simp, HB2.out⟩
    · have hkn : k = n := by omega
      subst hkn
      go_wp2_with fail
      go_ret
      exact ⟨_, rfl, by unfold allI; rw [Hn.out, HL.out]; decide, HB.out⟩
set_option maxRecDepth 100000 in
theorem acontains_any (li : List It) (v : Value) (w : World) (hv : Row It.cs 11 w v li) (hl : li.length ≤ 1000000) :
    Calls Try.prog 50 #[v, .func (.func 51) #[] #[]] w fun e w' => e = .returned (.bool (!allI li)) ∧ Below w.heap.size w w' := by
  have HI := Lib.hid (aindex_any li v w hv hl)
  obtain ⟨A, c, rfl, -, -⟩ := hv
  go_enter Try.func50, Try.ntmps50
  go_wp2_with fail
  refine (HI.out).mono ?_
  rintro e w2 ⟨r, rfl, hr, hb2⟩
  have HR := Lib.hid hr
  have HB2 := Lib.hid hb2
  clear hr hb2
  go_wp2_with fail
  go_ret
  exact ⟨by rw [← HR.out]; rfl, HB2.out⟩
/-- Where a bool stands in a row of bools. -/
def BixOf (l : List Bool) (b : Bool) (w : World) (e : Ending) (w' : World) : Prop := ∃ r : Int, e = .returned (.int .i64 r) ∧ decide (0 ≤ r) = l.contains b ∧ ∃ m, w' = w.drewN m
def BixRel (l : List Bool) (b : Bool) (w : World) (i : Value) (wr : World) : Prop := ∃ k : Nat, k ≤ l.length ∧ i = .int .i64 k ∧ (∀ j y, j < k → l[j]? = some y → y ≠ b) ∧ ∃ m, wr = w.drewN m
set_option maxHeartbeats 2000000 in
theorem bindex_any (li : List Bool) (bb : Bool) (v : Value) (w : World) (hv : Row bCs 1 w v li) (hl : li.length ≤ 1000000) :
    Calls Try.prog 66 #[v, .bool bb] w (BixOf li bb w) := by
  have HV := Lib.hid hv
  obtain ⟨A, c, rfl, hc, hA⟩ := hv
  have HA := Lib.hid hA
  clear hA
  obtain ⟨n, hn⟩ : ∃ n, li.length = n := ⟨_, rfl⟩
  rw [hn] at hl hc HV ⊢
  have Hn := Lib.hid hn
  clear hn
  go_enter Try.func66, Try.ntmps66
  go_wp2_with fail
  go_loopw [8] (fun i wr => BixRel li bb w i wr) (fun i _ => n - (intOf i).toNat)
  case atStart => exact ⟨0, Nat.zero_le _, rfl, fun j y hj => by omega, 0, rfl⟩
  case round =>
    obtain ⟨k, hk, rfl, hall, m, hm⟩ := hrel
    rw [Hn.out] at hk
    have HM := Lib.hid hm
    have HL := Lib.hid hall
    clear hm hall
    by_cases hlt : k < n
    · obtain ⟨x, hi⟩ : ∃ x, li[k]? = some x := ⟨_, List.getElem?_eq_getElem (by rw [Hn.out]; exact hlt)⟩
      obtain ⟨b, o, rfl, hb, hX⟩ := HA.out (by rw [Hn.out]; omega)
      have c0 : wr.cell? ⟨b, o + k * 1 + 0, none⟩ = some (.bool x) := by rw [HM.out]; exact hX k x 0 _ hi rfl
      clear hX
      simp only [Nat.add_zero, Nat.mul_one] at c0
      have HI := Lib.hid hi
      clear hi
      cases hxb : (bb == x) with
      | false =>
        have hne : x ≠ bb := by intro e; subst e; simp at hxb
        go_wp2_with fail
        go_roundw
        case rel =>
          refine ⟨k + 1, by rw [Hn.out]; omega, by go_num, fun j y hj hy => ?_, m, HM.out⟩
          by_cases hjk : j < k
          · exact HL.out j y hjk hy
          · obtain rfl : j = k := by omega
            rw [HI.out] at hy; injection hy with hy; subst hy; exact hne
        case measure => simp [intOf]; omega
      | true =>
        have he : bb = x := by simpa using hxb
        go_wp2_with fail
        go_ret
        refine ⟨_, rfl, ?_, m, HM.out⟩
        rw [show li.contains bb = true from List.contains_iff_mem.2 (by rw [he]; exact List.mem_of_getElem? HI.out)]
        simp
    · have hkn : k = n := by omega
      subst hkn
      go_wp2_with fail
      go_ret
      refine ⟨_, rfl, ?_, m, HM.out⟩
      rw [show li.contains bb = false by
        rw [Bool.eq_false_iff]
        intro h
        obtain ⟨j, hj, he⟩ := List.mem_iff_getElem.1 (List.contains_iff_mem.1 h)
        exact HL.out j _ (by rw [← Hn.out]; exact hj) (List.getElem?_eq_getElem hj) he]
      decide
set_option maxRecDepth 100000 in
theorem bcontains_any (li : List Bool) (bb : Bool) (v : Value) (w : World) (hv : Row bCs 1 w v li) (hl : li.length ≤ 1000000) :
    Calls Try.prog 48 #[v, .bool bb] w fun e w' => e = .returned (.bool (li.contains bb)) ∧ ∃ m, w' = w.drewN m := by
  have HI := Lib.hid (bindex_any li bb v w hv hl)
  obtain ⟨A, c, rfl, -, -⟩ := hv
  go_enter Try.func48, Try.ntmps48
  go_wp2_with fail
  refine (HI.out).mono ?_
  rintro e w2 ⟨r, rfl, hr, m, rfl⟩
  have HR := Lib.hid hr
  clear hr
  go_wp2_with fail
  go_ret
  exact ⟨by rw [← HR.out]; rfl, m, rfl⟩
end Go.Proofs.Ytenpgkkefielfaa
