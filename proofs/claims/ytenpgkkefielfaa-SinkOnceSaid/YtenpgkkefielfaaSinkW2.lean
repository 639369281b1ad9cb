/-
  WALKS of layer 19: which results may be; a row of them, both sides.
-/
import Derived.Test.YtenpgkkefielfaaSinkW1
set_option linter.unusedVariables false
set_option linter.unusedSimpArgs false
namespace Go.Proofs.Ytenpgkkefielfaa
open Go.RowKit

def mayB (r : Res) : Bool := resB r.lo r.hi r.k r.n
def resAt (l : List Res) (j : Nat) : Bool := mayB l[j]!
def allB (l : List Res) : Bool := (List.range l.length).all (resAt l)
theorem all_range_succ (p : Nat → Bool) (k : Nat) : (List.range (k + 1)).all p = ((List.range k).all p && p k) := by rw [List.range_succ, List.all_append]; simp
theorem all_range_not (p : Nat → Bool) {k n : Nat} (hk : k < n) (h : p k = false) : (List.range n).all p = false := by
  rw [List.all_eq_false]
  exact ⟨k, List.mem_range.2 hk, by simp [h]⟩
theorem right_res (lo hi : Int) (k : ByteArray) (n v : Int) (b : Bool) (hb : resB lo hi k n = b) : rightI ⟨5, ⟨#[]⟩, 0, 0, 0, 0, lo, hi, k, n, v⟩ = b := by
  rw [← hb]
  simp only [rightI, bareB, bareI, sameI, itZ]
  generalize resB lo hi k n = q
  cases q <;> simp
set_option maxRecDepth 100000 in
theorem may_any (r : Res) (w : World) (b : Bool) (hb : mayB r = b) : Calls Try.prog 54 #[r.val] w fun e w' => e = .returned (.bool b) ∧ Below w.heap.size w w' := by
  obtain ⟨lo, hi, k, n, v⟩ := r
  have HR := Lib.hid (fun W => right_any _ W b (right_res lo hi k n v b hb))
  clear hb
  unfold Res.val
  go_enter Try.func54, Try.ntmps54
  go_wp2_with fail
  refine (HR.out _).mono ?_
  rintro e w2 ⟨rfl, hb2⟩
  have HB2 := Lib.hid (belA (Below.refl _ _) hb2)
  clear hb2
  go_wp2_with fail
  go_ret
  exact ⟨rfl, HB2.out⟩
set_option maxRecDepth 100000 in
theorem pred_any (r : Res) (w : World) (b : Bool) (hb : mayB r = b) : Calls Try.prog 72 #[r.val] w fun e w' => e = .returned (.bool (!b)) ∧ Below w.heap.size w w' := by
  obtain ⟨lo, hi, k, n, v⟩ := r
  have HR := Lib.hid (fun W => may_any _ W b hb)
  clear hb
  unfold Res.val at HR ⊢
  go_enter Try.func72, Try.ntmps72
  go_wp2_with fail
  refine (HR.out _).mono ?_
  rintro e w2 ⟨rfl, hb2⟩
  have HB2 := Lib.hid (belA (Below.refl _ _) hb2)
  clear hb2
  go_wp2_with fail
  go_ret
  exact ⟨rfl, HB2.out⟩
/-- What IndexFunc tells of results one of which may not be. -/
def IdxOf (l : List Res) (w : World) (e : Ending) (w' : World) : Prop := ∃ r : Int, e = .returned (.int .i64 r) ∧ decide (0 ≤ r) = (!allB l) ∧ Below w.heap.size w w'
def IdxRel (l : List Res) (w : World) (i : Value) (wr : World) : Prop := ∃ k : Nat, k ≤ l.length ∧ i = .int .i64 k ∧ (List.range k).all (resAt l) = true ∧ Below w.heap.size w wr
set_option maxHeartbeats 1000000 in
theorem index_any (li : List Res) (v : Value) (w : World) (hv : Row Res.cs 5 w v li) (hl : li.length ≤ 1000000) :
    Calls Try.prog 76 #[v, .func (.func 72) #[] #[]] w (IdxOf li w) := by
  have HV := Lib.hid hv
  obtain ⟨A, c, rfl, hc, hA⟩ := hv
  have HA := Lib.hid hA
  clear hA
  obtain ⟨n, hn⟩ : ∃ n, li.length = n := ⟨_, rfl⟩
  rw [hn] at hl hc HV ⊢
  have Hn := Lib.hid hn
  clear hn
  go_enter Try.func76, Try.ntmps76
  go_wp2_with fail
  go_loopw [8] (fun i wr => IdxRel li w i wr) (fun i _ => n - (intOf i).toNat)
  case atStart => exact ⟨0, Nat.zero_le _, rfl, rfl, Below.refl _ _⟩
  case round =>
    obtain ⟨k, hk, rfl, hall, hbel⟩ := hrel
    rw [Hn.out] at hk
    have HB := Lib.hid hbel
    have HL := Lib.hid hall
    clear hbel hall
    by_cases hlt : k < n
    · obtain ⟨x, hi⟩ : ∃ x, li[k]? = some x := ⟨_, List.getElem?_eq_getElem (by rw [Hn.out]; exact hlt)⟩
      obtain ⟨b, o, rfl, hb, hX⟩ := HA.out (by rw [Hn.out]; omega)
      have c0 := (HB.out.cell (p := ⟨b, o + k * 5 + 0, none⟩) hb).trans (hX k x 0 _ hi rfl)
      have c1 := (HB.out.cell (p := ⟨b, o + k * 5 + 1, none⟩) hb).trans (hX k x 1 _ hi rfl)
      have c2 := (HB.out.cell (p := ⟨b, o + k * 5 + 2, none⟩) hb).trans (hX k x 2 _ hi rfl)
      have c3 := (HB.out.cell (p := ⟨b, o + k * 5 + 3, none⟩) hb).trans (hX k x 3 _ hi rfl)
      have c4 := (HB.out.cell (p := ⟨b, o + k * 5 + 4, none⟩) hb).trans (hX k x 4 _ hi rfl)
      have hxk : resAt li k = mayB x := by unfold resAt; rw [List.getElem!_eq_getElem?_getD, hi]; rfl
      clear hX
      obtain ⟨lo, hi5, ks, rn, rv⟩ := x
      simp only [Nat.add_zero] at c0 c1 c2 c3 c4 hxk
      obtain ⟨q, hq⟩ : ∃ q, mayB ⟨lo, hi5, ks, rn, rv⟩ = q := ⟨_, rfl⟩
      have HP := Lib.hid (fun W => pred_any ⟨lo, hi5, ks, rn, rv⟩ W q hq)
      unfold Res.val at HP
      rw [hq] at hxk
      have HX := Lib.hid hxk
      have HI := Lib.hid hi
      clear hxk hq hi
      go_wp2_with fail
      refine (HP.out _).mono ?_
      rintro e w2 ⟨rfl, hb2⟩
      have HB2 := Lib.hid (bThen HB.out hb2)
      clear hb2 HB c0 c1 c2 c3 c4
      cases q with
      | true =>
        go_wp2_with fail
        go_roundw
        case rel => exact ⟨k + 1, by rw [Hn.out]; omega, by go_num, by rw [all_range_succ, HL.out, HX.out]; rfl, HB2.out⟩
        case measure => simp [intOf]; omega
      | false =>
        go_wp2_with fail
        go_ret
        exact ⟨_, rfl, by unfold allB; rw [all_range_not (resAt li) (by rw [Hn.out]; exact hlt) HX.out]; simp, HB2.out⟩
    · have hkn : k = n := by omega
      subst hkn
      go_wp2_with fail
      go_ret
      exact ⟨_, rfl, by unfold allB; rw [Hn.out, HL.out]; decide, HB.out⟩
set_option maxRecDepth 100000 in
theorem contains_any (li : List Res) (v : Value) (w : World) (hv : Row Res.cs 5 w v li) (hl : li.length ≤ 1000000) :
    Calls Try.prog 71 #[v, .func (.func 72) #[] #[]] w fun e w' => e = .returned (.bool (!allB li)) ∧ Below w.heap.size w w' := by
  have HI := Lib.hid (index_any li v w hv hl)
  obtain ⟨A, c, rfl, -, -⟩ := hv
  go_enter Try.func71, Try.ntmps71
  go_wp2_with fail
  refine (HI.out).mono ?_
  rintro e w2 ⟨r, rfl, hr, hb2⟩
  have HR := Lib.hid hr
  have HB2 := Lib.hid hb2
  clear hr hb2
  go_wp2_with fail
  go_ret
  exact ⟨by rw [← HR.out]; rfl, HB2.out⟩
set_option maxRecDepth 100000 in
theorem all_any (li : List Res) (v : Value) (w : World) (hv : Row Res.cs 5 w v li) (hl : li.length ≤ 1000000) (b : Bool) (hb : allB li = b) :
    Calls Try.prog 60 #[v] w fun e w' => e = .returned (.bool b) ∧ Below w.heap.size w w' := by
  have HI := Lib.hid (contains_any li v w hv hl)
  rw [hb] at HI
  obtain ⟨A, c, rfl, -, -⟩ := hv
  go_enter Try.func60, Try.ntmps60
  go_wp2_with fail
  refine (HI.out).mono ?_
  rintro e w2 ⟨rfl, hb2⟩
  have HB2 := Lib.hid hb2
  clear hb2
  cases b with
  | true =>
    go_wp2_with fail
    go_ret
    exact ⟨rfl, HB2.out⟩
  | false =>
    go_wp2_with fail
    go_ret
    exact ⟨rfl, HB2.out⟩
theorem rmay_any (r : Res) (w : World) (b : Bool) (hb : mayB r = b) : Calls Try.prog 58 #[r.val] w fun e w' => e = .returned (.bool b) ∧ Below w.heap.size w w' := by
  refine (rresult_any r.lo r.hi r.k r.n r.v w b hb).mono ?_
  rintro e w' ⟨rfl, rfl⟩
  exact ⟨rfl, bel_alloc (Below.refl _ _) _⟩
/-- What the reference's 'all' tells: how many there may still be. -/
def rall (l : List Res) (room : Int) : Int × Bool := if decide (l.length ≤ room) && allB l then (room - l.length, true) else (0, false)
set_option maxHeartbeats 1000000 in
theorem rall_any (li : List Res) (v : Value) (room : Int) (w : World) (hv : Row Res.cs 5 w v li) (h0 : 0 ≤ room) (h1 : room ≤ 20000) (hm : li.length ≤ maxLen) (a : Int) (b : Bool) (hab : rall li room = (a, b)) :
    Calls Try.prog 69 #[v, .int .i64 room] w fun e w' => e = .returned (.tuple #[.int .i64 a, .bool b]) ∧ Below w.heap.size w w' := by
  have HV := Lib.hid hv
  have HAB := Lib.hid hab
  clear hab
  obtain ⟨A, c, rfl, hc, hA⟩ := hv
  have HA := Lib.hid hA
  clear hA
  obtain ⟨n, hn⟩ : ∃ n, li.length = n := ⟨_, rfl⟩
  rw [hn] at hc HV hm ⊢
  have Hn := Lib.hid hn
  clear hn
  by_cases hroom : room < n
  · have hlow : (n : Int) ≤ 9223372036854775807 := by unfold maxLen at hm; omega
    have hz : a = 0 ∧ b = false := by
      have := HAB.out
      unfold rall at this
      rw [Hn.out, decide_eq_false (by omega), Bool.false_and, if_neg (by simp)] at this
      injection this with h1 h2
      exact ⟨h1.symm, h2.symm⟩
    obtain ⟨rfl, rfl⟩ := hz
    go_enter Try.func69, Try.ntmps69
    go_wp2_with fail
    go_ret2
    exact ⟨rfl, Below.refl _ _⟩
  have hroom' : (n : Int) ≤ room := by omega
  go_enter Try.func69, Try.ntmps69
  go_wp2_with fail
  go_loopw [14] (fun i wr => IdxRel li w i wr) (fun i _ => n - (intOf i).toNat)
  case atStart => exact ⟨0, Nat.zero_le _, rfl, rfl, Below.refl _ _⟩
  case round =>
    obtain ⟨k, hk, rfl, hall, hbel⟩ := hrel
    rw [Hn.out] at hk
    have HB := Lib.hid hbel
    have HL := Lib.hid hall
    clear hbel hall
    by_cases hlt : k < n
    · obtain ⟨x, hi⟩ : ∃ x, li[k]? = some x := ⟨_, List.getElem?_eq_getElem (by rw [Hn.out]; exact hlt)⟩
      obtain ⟨b', o, rfl, hb, hX⟩ := HA.out (by rw [Hn.out]; omega)
      have c0 := (HB.out.cell (p := ⟨b', o + k * 5 + 0, none⟩) hb).trans (hX k x 0 _ hi rfl)
      have c1 := (HB.out.cell (p := ⟨b', o + k * 5 + 1, none⟩) hb).trans (hX k x 1 _ hi rfl)
      have c2 := (HB.out.cell (p := ⟨b', o + k * 5 + 2, none⟩) hb).trans (hX k x 2 _ hi rfl)
      have c3 := (HB.out.cell (p := ⟨b', o + k * 5 + 3, none⟩) hb).trans (hX k x 3 _ hi rfl)
      have c4 := (HB.out.cell (p := ⟨b', o + k * 5 + 4, none⟩) hb).trans (hX k x 4 _ hi rfl)
      have hxk : resAt li k = mayB x := by unfold resAt; rw [List.getElem!_eq_getElem?_getD, hi]; rfl
      clear hX
      obtain ⟨lo, hi5, ks, rn, rv⟩ := x
      simp only [Nat.add_zero] at c0 c1 c2 c3 c4 hxk
      obtain ⟨q, hq⟩ : ∃ q, mayB ⟨lo, hi5, ks, rn, rv⟩ = q := ⟨_, rfl⟩
      have HP := Lib.hid (fun W => rmay_any ⟨lo, hi5, ks, rn, rv⟩ W q hq)
      unfold Res.val at HP
      rw [hq] at hxk
      have HX := Lib.hid hxk
      have HI := Lib.hid hi
      clear hxk hq hi
      go_wp2_with fail
      refine (HP.out _).mono ?_
      rintro e w2 ⟨rfl, hb2⟩
      have HB2 := Lib.hid (belA HB.out hb2)
      clear hb2 HB c0 c1 c2 c3 c4
      cases q with
      | true =>
        go_wp2_with fail
        go_roundw
        case rel => exact ⟨k + 1, by rw [Hn.out]; omega, by go_num, by rw [all_range_succ, HL.out, HX.out]; rfl, HB2.out⟩
        case measure => simp [intOf]; omega
      | false =>
        have hz : a = 0 ∧ b = false := by
          have := HAB.out
          unfold rall allB at this
          rw [all_range_not (resAt li) (by rw [Hn.out]; exact hlt) HX.out, Bool.and_false, if_neg (by simp)] at this
          injection this with h1 h2
          exact ⟨h1.symm, h2.symm⟩
        obtain ⟨rfl, rfl⟩ := hz
        go_wp2_with fail
        go_ret2
        exact ⟨rfl, HB2.out⟩
    · have hkn : k = n := by omega
      subst hkn
      have hz : a = room - k ∧ b = true := by
        have := HAB.out
        unfold rall allB at this
        rw [Hn.out, HL.out, decide_eq_true hroom', Bool.true_and, if_pos rfl] at this
        injection this with h1 h2
        exact ⟨h1.symm, h2.symm⟩
      obtain ⟨rfl, rfl⟩ := hz
      go_wp2_with fail
      go_ret2
      exact ⟨rfl, HB.out⟩
end Go.Proofs.Ytenpgkkefielfaa
