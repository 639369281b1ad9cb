/-
  WALKS of layer 17: which cells may be; which store may be.
-/
import Derived.Test.YtlboehpgpbchhaaStoreP1
import Derived.Test.YtlboehpgpbchhaaRowsPush
import Derived.Test.YtlboehpgpbchhaaRegHead
import Derived.Deep.RegionLaw
import Derived.Deep.DeepCutAuto
set_option linter.unusedVariables false
set_option linter.unusedSimpArgs false
namespace Go.Proofs.Ytlboehpgpbchhaa
open Go.RowKit

theorem info_cl : (Try.prog.info? 43).map (fun i => (i.zero, i.size, i.bytes)) = some (some (.agg #[.string ⟨#[]⟩, .string ⟨#[]⟩]), 2, 32) := by kernel_rfl
set_option maxHeartbeats 1000000 in
theorem may_any (c : Cl) (w : World) (q : Bool) (hq : mayC c = q) (hc : c.Ok) :
    Calls Try.prog 41 #[.agg #[.string c.n, .string c.b]] w fun e w' => e = .returned (.bool q) ∧ Below w.heap.size w w' := by
  obtain ⟨n, b⟩ := c
  unfold mayC at hq
  unfold Cl.Ok maxLen at hc
  simp only at hq hc ⊢
  obtain ⟨z, hz⟩ : ∃ z, noB n = z := ⟨_, rfl⟩
  rw [hz] at hq
  unfold noB at hz
  obtain ⟨hc1, hc2⟩ := hc
  cases z with
  | true =>
    simp only [Bool.not_true, Bool.false_and] at hq
    subst hq
    go_enter Try.func41, Try.ntmps41
    go_wp2_with fail
    go_ret
    exact ⟨rfl, bel_alloc (Below.refl _ _) _⟩
  | false =>
    rw [Bool.not_false, Bool.true_and] at hq
    by_cases h1 : n.size ≤ 16
    · rw [decide_eq_true h1, Bool.true_and] at hq
      have hq2 : decide ((b.size : Int) ≤ 4096) = q := by rw [← hq, Bool.eq_iff_iff, decide_eq_true_eq, decide_eq_true_eq]; omega
      have HQ := Lib.hid hq2
      clear hq hq2
      go_enter Try.func41, Try.ntmps41
      go_wp2_with fail
      go_ret
      exact ⟨by rw [← HQ.out]; rfl, bel_alloc (Below.refl _ _) _⟩
    · rw [decide_eq_false h1, Bool.false_and] at hq
      subst hq
      go_enter Try.func41, Try.ntmps41
      go_wp2_with fail
      go_ret
      exact ⟨rfl, bel_alloc (Below.refl _ _) _⟩
set_option maxHeartbeats 1000000 in
theorem rmay_any (c : Cl) (w : World) (q : Bool) (hq : mayC c = q) (hc : c.Ok) :
    Calls Try.prog 44 #[.agg #[.string c.n, .string c.b]] w fun e w' => e = .returned (.bool q) ∧ Below w.heap.size w w' := by
  obtain ⟨n, b⟩ := c
  unfold mayC at hq
  unfold Cl.Ok maxLen at hc
  rw [noB_size] at hq
  simp only at hq hc ⊢
  obtain ⟨hc1, hc2⟩ := hc
  by_cases h0 : n.size = 0
  · have h01 : decide (1 ≤ n.size) = false := decide_eq_false (by omega)
    have h02 : decide (1 ≤ (n.size : Int)) = false := decide_eq_false (by omega)
    rw [decide_eq_true h0] at hq
    simp only [Bool.not_true, Bool.false_and] at hq
    subst hq
    clear h0
    go_enter Try.func44, Try.ntmps44
    go_wp2_with fail
    go_ret
    exact ⟨rfl, bel_alloc (Below.refl _ _) _⟩
  · rw [decide_eq_false h0, Bool.not_false, Bool.true_and] at hq
    have h01 : decide (1 ≤ n.size) = true := decide_eq_true (by omega)
    have h02 : decide (1 ≤ (n.size : Int)) = true := decide_eq_true (by omega)
    clear h0
    by_cases h1 : n.size ≤ 16
    · rw [decide_eq_true h1, Bool.true_and] at hq
      have hq2 : decide ((b.size : Int) ≤ 4096) = q := by rw [← hq, Bool.eq_iff_iff, decide_eq_true_eq, decide_eq_true_eq]; omega
      have HQ := Lib.hid hq2
      clear hq hq2
      go_enter Try.func44, Try.ntmps44
      go_wp2_with fail
      go_ret
      exact ⟨by rw [← HQ.out]; rfl, bel_alloc (Below.refl _ _) _⟩
    · rw [decide_eq_false h1, Bool.false_and] at hq
      subst hq
      go_enter Try.func44, Try.ntmps44
      go_wp2_with fail
      go_ret
      exact ⟨rfl, bel_alloc (Below.refl _ _) _⟩
set_option maxHeartbeats 1000000 in
theorem allp_any (c : Cl) (w : World) (q : Bool) (hq : mayC c = q) (hc : c.Ok) :
    Calls Try.prog 57 #[.agg #[.string c.n, .string c.b]] w fun e w' => e = .returned (.bool (!q)) ∧ Below w.heap.size w w' := by
  have HM := Lib.hid (fun W => may_any c W q hq hc)
  clear hq hc
  obtain ⟨n, b⟩ := c
  simp only at HM ⊢
  go_enter Try.func57, Try.ntmps57
  go_wp2_with fail
  refine (HM.out _).mono ?_
  rintro e w1 ⟨rfl, hb⟩
  have B := Lib.hid (belA (Below.refl _ _) hb)
  clear hb
  go_wp2_with fail
  go_ret
  exact ⟨rfl, B.out⟩
set_option maxHeartbeats 1000000 in
theorem batp_any (c : Cl) (w : World) (q : Bool) (hq : mayC c = q) (hc : c.Ok) :
    Calls Try.prog 40 #[.agg #[.string c.n, .string c.b]] w fun e w' => e = .returned (.bool (!q)) ∧ Below w.heap.size w w' := by
  have HM := Lib.hid (fun W => may_any c W q hq hc)
  clear hq hc
  obtain ⟨n, b⟩ := c
  simp only at HM ⊢
  go_enter Try.func40, Try.ntmps40
  go_wp2_with fail
  refine (HM.out _).mono ?_
  rintro e w1 ⟨rfl, hb⟩
  have B := Lib.hid (belA (Below.refl _ _) hb)
  clear hb
  go_wp2_with fail
  go_ret
  exact ⟨rfl, B.out⟩
/-- A function that tells of a cell whether it may not be. -/
def Bars (f : Nat) : Prop := ∀ (c : Cl) (w : World) (q : Bool), mayC c = q → c.Ok → Calls Try.prog f #[.agg #[.string c.n, .string c.b]] w fun e w' => e = .returned (.bool (!q)) ∧ Below w.heap.size w w'
def IxOf (l : List Cl) (w : World) (e : Ending) (w' : World) : Prop := ∃ r : Int, e = .returned (.int .i64 r) ∧ decide (0 ≤ r) = (!allC l) ∧ Below w.heap.size w w'
def IxRel (l : List Cl) (w : World) (i : Value) (wr : World) : Prop := ∃ k : Nat, k ≤ l.length ∧ i = .int .i64 k ∧ (List.range k).all (fun i => mayC l[i]!) = true ∧ Below w.heap.size w wr
theorem at_get {α : Type} [Inhabited α] {l : List α} {k : Nat} {x : α} (h : l[k]? = some x) : l[k]! = x := by rw [List.getElem!_eq_getElem?_getD, h]; rfl
def OkRow (W : World) (v : Value) (l : List Cl) : Prop := Row Cl.cs 2 W v l ∧ (∀ x ∈ l, x.Ok) ∧ l.length ≤ 1000000
set_option maxHeartbeats 1000000 in
theorem ixall_any (l : List Cl) (v : Value) (w : World) (hv : Row Cl.cs 2 w v l) (hl : l.length ≤ 1000000) (hok : ∀ x ∈ l, x.Ok) :
    Calls Try.prog 60 #[v, .func (.func 57) #[] #[]] w (IxOf l w) := by
  have HV := Lib.hid hv
  have HOK := Lib.hid hok
  obtain ⟨A, c, rfl, hc, hA⟩ := hv
  have HA := Lib.hid hA
  clear hA hok
  obtain ⟨n, hn⟩ : ∃ n, l.length = n := ⟨_, rfl⟩
  rw [hn] at hl hc HV ⊢
  have Hn := Lib.hid hn
  clear hn
  go_enter Try.func60, Try.ntmps60
  go_wp2_with fail
  go_loopw [8] (fun i wr => IxRel l w i wr) (fun i _ => n - (intOf i).toNat)
  case atStart => exact ⟨0, Nat.zero_le _, rfl, rfl, Below.refl _ _⟩
  case round =>
    obtain ⟨k, hk, rfl, hall, hbel⟩ := hrel
    rw [Hn.out] at hk
    have HB := Lib.hid hbel
    have HL := Lib.hid hall
    clear hbel hall
    by_cases hlt : k < n
    · obtain ⟨x, hi⟩ : ∃ x, l[k]? = some x := ⟨_, List.getElem?_eq_getElem (by rw [Hn.out]; exact hlt)⟩
      obtain ⟨b, o, rfl, hb, hX⟩ := HA.out (by rw [Hn.out]; omega)
      have c0 := (HB.out.cell (p := ⟨b, o + k * 2 + 0, none⟩) hb).trans (hX k x 0 _ hi rfl)
      have c1 := (HB.out.cell (p := ⟨b, o + k * 2 + 1, none⟩) hb).trans (hX k x 1 _ hi rfl)
      have hxk : mayC l[k]! = mayC x := by rw [at_get hi]
      have hxo := HOK.out x (List.mem_of_getElem? hi)
      clear hX
      obtain ⟨q, hq⟩ : ∃ q, mayC x = q := ⟨_, rfl⟩
      have HP := Lib.hid (fun W => allp_any x W q hq hxo)
      rw [hq] at hxk
      obtain ⟨xm, xi⟩ := x
      simp only [Nat.add_zero] at c0 c1 HP
      have HX := Lib.hid hxk
      clear hxk hq hi hxo
      go_wp2_with fail
      refine (HP.out _).mono ?_
      rintro e w2 ⟨rfl, hb2⟩
      have HB2 := Lib.hid (bThen HB.out hb2)
      clear hb2 HB c0 c1
      cases q with
      | true =>
        go_wp2_with fail
        go_roundw
        case rel => exact ⟨k + 1, by rw [Hn.out]; omega, by go_num, by rw [all_range_succ, HL.out, HX.out]; rfl, HB2.out⟩
        case measure => simp [intOf]; omega
      | false =>
        go_wp2_with fail
        go_ret
        exact ⟨_, rfl, by unfold allC; rw [all_range_not (fun i => mayC l[i]!) (by rw [Hn.out]; exact hlt) HX.out]; simp, HB2.out⟩
    · have hkn : k = n := by omega
      subst hkn
      go_wp2_with fail
      go_ret
      exact ⟨_, rfl, by unfold allC; rw [Hn.out, HL.out]; decide, HB.out⟩
set_option maxHeartbeats 1000000 in
theorem coall_any (l : List Cl) (v : Value) (w : World) (hv : Row Cl.cs 2 w v l) (hl : l.length ≤ 1000000) (hok : ∀ x ∈ l, x.Ok) (q : Bool) (hq : allC l = q) :
    Calls Try.prog 39 #[v, .func (.func 57) #[] #[]] w fun e w' => e = .returned (.bool (!q)) ∧ Below w.heap.size w w' := by
  have HI := Lib.hid (fun W h => ixall_any l v W h hl hok)
  have HV := Lib.hid hv
  have HQ := Lib.hid hq
  obtain ⟨A, c, rfl, hc, -⟩ := hv
  clear hq hok
  go_enter Try.func39, Try.ntmps39
  go_wp2_with fail
  refine (HI.out _ HV.out).mono ?_
  rintro e w1 ⟨r, rfl, hr, hb⟩
  rw [HQ.out] at hr
  have HR := Lib.hid hr
  have HB := Lib.hid hb
  clear hr hb
  go_wp2_with fail
  go_ret
  exact ⟨by rw [← HR.out]; rfl, HB.out⟩
set_option maxHeartbeats 1000000 in
theorem ixbat_any (l : List Cl) (v : Value) (w : World) (hv : Row Cl.cs 2 w v l) (hl : l.length ≤ 1000000) (hok : ∀ x ∈ l, x.Ok) :
    Calls Try.prog 60 #[v, .func (.func 40) #[] #[]] w (IxOf l w) := by
  have HV := Lib.hid hv
  have HOK := Lib.hid hok
  obtain ⟨A, c, rfl, hc, hA⟩ := hv
  have HA := Lib.hid hA
  clear hA hok
  obtain ⟨n, hn⟩ : ∃ n, l.length = n := ⟨_, rfl⟩
  rw [hn] at hl hc HV ⊢
  have Hn := Lib.hid hn
  clear hn
  go_enter Try.func60, Try.ntmps60
  go_wp2_with fail
  go_loopw [8] (fun i wr => IxRel l w i wr) (fun i _ => n - (intOf i).toNat)
  case atStart => exact ⟨0, Nat.zero_le _, rfl, rfl, Below.refl _ _⟩
  case round =>
    obtain ⟨k, hk, rfl, hall, hbel⟩ := hrel
    rw [Hn.out] at hk
    have HB := Lib.hid hbel
    have HL := Lib.hid hall
    clear hbel hall
    by_cases hlt : k < n
    · obtain ⟨x, hi⟩ : ∃ x, l[k]? = some x := ⟨_, List.getElem?_eq_getElem (by rw [Hn.out]; exact hlt)⟩
      obtain ⟨b, o, rfl, hb, hX⟩ := HA.out (by rw [Hn.out]; omega)
      have c0 := (HB.out.cell (p := ⟨b, o + k * 2 + 0, none⟩) hb).trans (hX k x 0 _ hi rfl)
      have c1 := (HB.out.cell (p := ⟨b, o + k * 2 + 1, none⟩) hb).trans (hX k x 1 _ hi rfl)
      have hxk : mayC l[k]! = mayC x := by rw [at_get hi]
      have hxo := HOK.out x (List.mem_of_getElem? hi)
      clear hX
      obtain ⟨q, hq⟩ : ∃ q, mayC x = q := ⟨_, rfl⟩
      have HP := Lib.hid (fun W => batp_any x W q hq hxo)
      rw [hq] at hxk
      obtain ⟨xm, xi⟩ := x
      simp only [Nat.add_zero] at c0 c1 HP
      have HX := Lib.hid hxk
      clear hxk hq hi hxo
      go_wp2_with fail
      refine (HP.out _).mono ?_
      rintro e w2 ⟨rfl, hb2⟩
      have HB2 := Lib.hid (bThen HB.out hb2)
      clear hb2 HB c0 c1
      cases q with
      | true =>
        go_wp2_with fail
        go_roundw
        case rel => exact ⟨k + 1, by rw [Hn.out]; omega, by go_num, by rw [all_range_succ, HL.out, HX.out]; rfl, HB2.out⟩
        case measure => simp [intOf]; omega
      | false =>
        go_wp2_with fail
        go_ret
        exact ⟨_, rfl, by unfold allC; rw [all_range_not (fun i => mayC l[i]!) (by rw [Hn.out]; exact hlt) HX.out]; simp, HB2.out⟩
    · have hkn : k = n := by omega
      subst hkn
      go_wp2_with fail
      go_ret
      exact ⟨_, rfl, by unfold allC; rw [Hn.out, HL.out]; decide, HB.out⟩
set_option maxHeartbeats 1000000 in
theorem cobat_any (l : List Cl) (v : Value) (w : World) (hv : Row Cl.cs 2 w v l) (hl : l.length ≤ 1000000) (hok : ∀ x ∈ l, x.Ok) (q : Bool) (hq : allC l = q) :
    Calls Try.prog 39 #[v, .func (.func 40) #[] #[]] w fun e w' => e = .returned (.bool (!q)) ∧ Below w.heap.size w w' := by
  have HI := Lib.hid (fun W h => ixbat_any l v W h hl hok)
  have HV := Lib.hid hv
  have HQ := Lib.hid hq
  obtain ⟨A, c, rfl, hc, -⟩ := hv
  clear hq hok
  go_enter Try.func39, Try.ntmps39
  go_wp2_with fail
  refine (HI.out _ HV.out).mono ?_
  rintro e w1 ⟨r, rfl, hr, hb⟩
  rw [HQ.out] at hr
  have HR := Lib.hid hr
  have HB := Lib.hid hb
  clear hr hb
  go_wp2_with fail
  go_ret
  exact ⟨by rw [← HR.out]; rfl, HB.out⟩
set_option maxHeartbeats 1000000 in
theorem all_any (l : List Cl) (v : Value) (w : World) (hv : Row Cl.cs 2 w v l) (hl : l.length ≤ 1000000) (hok : ∀ x ∈ l, x.Ok) (q : Bool) (hq : (decide (l.length ≤ 64) && allC l) = q) :
    Calls Try.prog 35 #[v] w fun e w' => e = .returned (.bool q) ∧ Below w.heap.size w w' := by
  obtain ⟨qa, hqa⟩ : ∃ q, allC l = q := ⟨_, rfl⟩
  have HC := Lib.hid (fun W h => coall_any l v W h hl hok qa hqa)
  have HV := Lib.hid hv
  rw [hqa] at hq
  obtain ⟨A, c, rfl, hc, -⟩ := hv
  obtain ⟨n, hn⟩ : ∃ n, l.length = n := ⟨_, rfl⟩
  rw [hn] at hl hc hq HV HC ⊢
  clear hn hok hqa
  by_cases h64 : n ≤ 64
  · rw [decide_eq_true h64, Bool.true_and] at hq
    subst hq
    go_enter Try.func35, Try.ntmps35
    go_wp2_with fail
    refine (HC.out _ HV.out).mono ?_
    rintro e w1 ⟨rfl, hb⟩
    have HB := Lib.hid hb
    clear hb
    go_wp2_with fail
    go_ret
    exact ⟨by simp, HB.out⟩
  · rw [decide_eq_false h64, Bool.false_and] at hq
    subst hq
    go_enter Try.func35, Try.ntmps35
    go_wp2_with fail
    go_ret
    exact ⟨rfl, Below.refl _ _⟩
end Go.Proofs.Ytlboehpgpbchhaa
