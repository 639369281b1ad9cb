/-
  WALKS: the texts StoreW1, StoreW2, StoreW3, StoreW4, StoreW5, but for what speaks of functions that are not here (progonly.py).
-/
import Derived.Test.YtlboehpgpbchhaaGreatStoreP1
import Derived.Test.YtlboehpgpbchhaaGreatRegHead
import Derived.Test.YtlboehpgpbchhaaGreatInsCell
import Derived.Test.YtlboehpgpbchhaaGreatDelCell
import Derived.Test.YtlboehpgpbchhaaGreatRowsArg
import Derived.Deep.RegionLaw
import Derived.Deep.DeepCutAuto
set_option linter.unusedVariables false
set_option linter.unusedSimpArgs false
namespace Go.Proofs.YtlboehpgpbchhaaGreat.Sto
open Go.RowKit
theorem info_cl : (Tryz.prog.info? 64).map (fun i => (i.zero, i.size, i.bytes)) = some (some (.agg #[.string ⟨#[]⟩, .string ⟨#[]⟩]), 2, 32) := by kernel_rfl
set_option maxHeartbeats 1000000 in
theorem may_any (c : Cl) (w : World) (q : Bool) (hq : mayC c = q) (hc : c.Ok) :
    Calls Tryz.prog 46 #[.agg #[.string c.n, .string c.b]] w fun e w' => e = .returned (.bool q) ∧ Below w.heap.size w w' := by
  obtain ⟨n, b⟩ := c
  unfold mayC at hq
  unfold Cl.Ok maxLen at hc
  simp only at hq hc ⊢
  obtain ⟨z, hz⟩ : ∃ z, noB n = z := ⟨_, rfl⟩
  rw [hz] at hq
  unfold noB at hz
  obtain ⟨hc1, hc2⟩ := hc
  cases z with
  | true =>
    simp only [Bool.not_true, Bool.false_and] at hq
    subst hq
    go_enter Tryz.func46, Tryz.ntmps46
    go_wp2_with fail
    go_ret
    exact ⟨rfl, bel_alloc (Below.refl _ _) _⟩
  | false =>
    rw [Bool.not_false, Bool.true_and] at hq
    by_cases h1 : n.size ≤ 16
    · rw [decide_eq_true h1, Bool.true_and] at hq
      have hq2 : decide ((b.size : Int) ≤ 4096) = q := by rw [← hq, Bool.eq_iff_iff, decide_eq_true_eq, decide_eq_true_eq]; omega
      have HQ := Lib.hid hq2
      clear hq hq2
      go_enter Tryz.func46, Tryz.ntmps46
      go_wp2_with fail
      go_ret
      exact ⟨by rw [← HQ.out]; rfl, bel_alloc (Below.refl _ _) _⟩
    · rw [decide_eq_false h1, Bool.false_and] at hq
      subst hq
      go_enter Tryz.func46, Tryz.ntmps46
      go_wp2_with fail
      go_ret
      exact ⟨rfl, bel_alloc (Below.refl _ _) _⟩
set_option maxHeartbeats 1000000 in
theorem allp_any (c : Cl) (w : World) (q : Bool) (hq : mayC c = q) (hc : c.Ok) :
    Calls Tryz.prog 104 #[.agg #[.string c.n, .string c.b]] w fun e w' => e = .returned (.bool (!q)) ∧ Below w.heap.size w w' := by
  have HM := Lib.hid (fun W => may_any c W q hq hc)
  clear hq hc
  obtain ⟨n, b⟩ := c
  simp only at HM ⊢
  go_enter Tryz.func104, Tryz.ntmps104
  go_wp2_with fail
  refine (HM.out _).mono ?_
  rintro e w1 ⟨rfl, hb⟩
  have B := Lib.hid (belA (Below.refl _ _) hb)
  clear hb
  go_wp2_with fail
  go_ret
  exact ⟨rfl, B.out⟩
set_option maxHeartbeats 1000000 in
theorem batp_any (c : Cl) (w : World) (q : Bool) (hq : mayC c = q) (hc : c.Ok) :
    Calls Tryz.prog 45 #[.agg #[.string c.n, .string c.b]] w fun e w' => e = .returned (.bool (!q)) ∧ Below w.heap.size w w' := by
  have HM := Lib.hid (fun W => may_any c W q hq hc)
  clear hq hc
  obtain ⟨n, b⟩ := c
  simp only at HM ⊢
  go_enter Tryz.func45, Tryz.ntmps45
  go_wp2_with fail
  refine (HM.out _).mono ?_
  rintro e w1 ⟨rfl, hb⟩
  have B := Lib.hid (belA (Below.refl _ _) hb)
  clear hb
  go_wp2_with fail
  go_ret
  exact ⟨rfl, B.out⟩
/-- A function that tells of a cell whether it may not be. -/
def Bars (f : Nat) : Prop := ∀ (c : Cl) (w : World) (q : Bool), mayC c = q → c.Ok → Calls Tryz.prog f #[.agg #[.string c.n, .string c.b]] w fun e w' => e = .returned (.bool (!q)) ∧ Below w.heap.size w w'
def IxOf (l : List Cl) (w : World) (e : Ending) (w' : World) : Prop := ∃ r : Int, e = .returned (.int .i64 r) ∧ decide (0 ≤ r) = (!allC l) ∧ Below w.heap.size w w'
def IxRel (l : List Cl) (w : World) (i : Value) (wr : World) : Prop := ∃ k : Nat, k ≤ l.length ∧ i = .int .i64 k ∧ (List.range k).all (fun i => mayC l[i]!) = true ∧ Below w.heap.size w wr
theorem at_get {α : Type} [Inhabited α] {l : List α} {k : Nat} {x : α} (h : l[k]? = some x) : l[k]! = x := by rw [List.getElem!_eq_getElem?_getD, h]; rfl
def OkRow (W : World) (v : Value) (l : List Cl) : Prop := Row Cl.cs 2 W v l ∧ (∀ x ∈ l, x.Ok) ∧ l.length ≤ 1000000
set_option maxHeartbeats 1000000 in
theorem ixall_any (l : List Cl) (v : Value) (w : World) (hv : Row Cl.cs 2 w v l) (hl : l.length ≤ 1000000) (hok : ∀ x ∈ l, x.Ok) :
    Calls Tryz.prog 75 #[v, .func (.func 104) #[] #[]] w (IxOf l w) := by
  have HV := Lib.hid hv
  have HOK := Lib.hid hok
  obtain ⟨A, c, rfl, hc, hA⟩ := hv
  have HA := Lib.hid hA
  clear hA hok
  obtain ⟨n, hn⟩ : ∃ n, l.length = n := ⟨_, rfl⟩
  rw [hn] at hl hc HV ⊢
  have Hn := Lib.hid hn
  clear hn
  go_enter Tryz.func75, Tryz.ntmps75
  go_wp2_with fail
  go_loopw [8] (fun i wr => IxRel l w i wr) (fun i _ => n - (intOf i).toNat)
  case atStart => exact ⟨0, Nat.zero_le _, rfl, rfl, Below.refl _ _⟩
  case round =>
    obtain ⟨k, hk, rfl, hall, hbel⟩ := hrel
    rw [Hn.out] at hk
    have HB := Lib.hid hbel
    have HL := Lib.hid hall
    clear hbel hall
    by_cases hlt : k < n
    · obtain ⟨x, hi⟩ : ∃ x, l[k]? = some x := ⟨_, List.getElem?_eq_getElem (by rw [Hn.out]; exact hlt)⟩
      obtain ⟨b, o, rfl, hb, hX⟩ := HA.out (by rw [Hn.out]; omega)
      have c0 := (HB.out.cell (p := ⟨b, o + k * 2 + 0, none⟩) hb).trans (hX k x 0 _ hi rfl)
      have c1 := (HB.out.cell (p := ⟨b, o + k * 2 + 1, none⟩) hb).trans (hX k x 1 _ hi rfl)
      have hxk : mayC l[k]! = mayC x := by rw [at_get hi]
      have hxo := HOK.out x (List.mem_of_getElem? hi)
      clear hX
      obtain ⟨q, hq⟩ : ∃ q, mayC x = q := ⟨_, rfl⟩
      have HP := Lib.hid (fun W => allp_any x W q hq hxo)
      rw [hq] at hxk
      obtain ⟨xm, xi⟩ := x
      simp only [Nat.add_zero] at c0 c1 HP
      have HX := Lib.hid hxk
      clear hxk hq hi hxo
      go_wp2_with fail
      refine (HP.out _).mono ?_
      rintro e w2 ⟨rfl, hb2⟩
      have HB2 := Lib.hid (bThen HB.out hb2)
      clear hb2 HB c0 c1
      cases q with
      | true =>
        go_wp2_with fail
        go_roundw
        case rel => exact ⟨k + 1, by rw [Hn.out]; omega, by go_num, by rw [all_range_succ, HL.out, HX.out]; rfl, HB2.out⟩
        case measure => simp [intOf]; omega
      | false =>
        go_wp2_with fail
        go_ret
        exact ⟨_, rfl, by unfold allC; rw [all_range_not (fun i => mayC l[i]!) (by rw [Hn.out]; exact hlt) HX.out]; simp, HB2.out⟩
    · have hkn : k = n := by omega
      subst hkn
      go_wp2_with fail
      go_ret
      exact ⟨_, rfl, by unfold allC; rw [Hn.out, HL.out]; decide, HB.out⟩
set_option maxHeartbeats 1000000 in
theorem coall_any (l : List Cl) (v : Value) (w : World) (hv : Row Cl.cs 2 w v l) (hl : l.length ≤ 1000000) (hok : ∀ x ∈ l, x.Ok) (q : Bool) (hq : allC l = q) :
    Calls Tryz.prog 44 #[v, .func (.func 104) #[] #[]] w fun e w' => e = .returned (.bool (!q)) ∧ Below w.heap.size w w' := by
  have HI := Lib.hid (fun W h => ixall_any l v W h hl hok)
  have HV := Lib.hid hv
  have HQ := Lib.hid hq
  obtain ⟨A, c, rfl, hc, -⟩ := hv
  clear hq hok
  go_enter Tryz.func44, Tryz.ntmps44
  go_wp2_with fail
  refine (HI.out _ HV.out).mono ?_
  rintro e w1 ⟨r, rfl, hr, hb⟩
  rw [HQ.out] at hr
  have HR := Lib.hid hr
  have HB := Lib.hid hb
  clear hr hb
  go_wp2_with fail
  go_ret
  exact ⟨by rw [← HR.out]; rfl, HB.out⟩
set_option maxHeartbeats 1000000 in
theorem ixbat_any (l : List Cl) (v : Value) (w : World) (hv : Row Cl.cs 2 w v l) (hl : l.length ≤ 1000000) (hok : ∀ x ∈ l, x.Ok) :
    Calls Tryz.prog 75 #[v, .func (.func 45) #[] #[]] w (IxOf l w) := by
  have HV := Lib.hid hv
  have HOK := Lib.hid hok
  obtain ⟨A, c, rfl, hc, hA⟩ := hv
  have HA := Lib.hid hA
  clear hA hok
  obtain ⟨n, hn⟩ : ∃ n, l.length = n := ⟨_, rfl⟩
  rw [hn] at hl hc HV ⊢
  have Hn := Lib.hid hn
  clear hn
  go_enter Tryz.func75, Tryz.ntmps75
  go_wp2_with fail
  go_loopw [8] (fun i wr => IxRel l w i wr) (fun i _ => n - (intOf i).toNat)
  case atStart => exact ⟨0, Nat.zero_le _, rfl, rfl, Below.refl _ _⟩
  case round =>
    obtain ⟨k, hk, rfl, hall, hbel⟩ := hrel
    rw [Hn.out] at hk
    have HB := Lib.hid hbel
    have HL := Lib.hid hall
    clear hbel hall
    by_cases hlt : k < n
    · obtain ⟨x, hi⟩ : ∃ x, l[k]? = some x := ⟨_, List.getElem?_eq_getElem (by rw [Hn.out]; exact hlt)⟩
      obtain ⟨b, o, rfl, hb, hX⟩ := HA.out (by rw [Hn.out]; omega)
      have c0 := (HB.out.cell (p := ⟨b, o + k * 2 + 0, none⟩) hb).trans (hX k x 0 _ hi rfl)
      have c1 := (HB.out.cell (p := ⟨b, o + k * 2 + 1, none⟩) hb).trans (hX k x 1 _ hi rfl)
      have hxk : mayC l[k]! = mayC x := by rw [at_get hi]
      have hxo := HOK.out x (List.mem_of_getElem? hi)
      clear hX
      obtain ⟨q, hq⟩ : ∃ q, mayC x = q := ⟨_, rfl⟩
      have HP := Lib.hid (fun W => batp_any x W q hq hxo)
      rw [hq] at hxk
      obtain ⟨xm, xi⟩ := x
      simp only [Nat.add_zero] at c0 c1 HP
      have HX := Lib.hid hxk
      clear hxk hq hi hxo
      go_wp2_with fail
      refine (HP.out _).mono ?_
      rintro e w2 ⟨rfl, hb2⟩
      have HB2 := Lib.hid (bThen HB.out hb2)
      clear hb2 HB c0 c1
      cases q with
      | true =>
        go_wp2_with fail
        go_roundw
        case rel => exact ⟨k + 1, by rw [Hn.out]; omega, by go_num, by rw [all_range_succ, HL.out, HX.out]; rfl, HB2.out⟩
        case measure => simp [intOf]; omega
      | false =>
        go_wp2_with fail
        go_ret
        exact ⟨_, rfl, by unfold allC; rw [all_range_not (fun i => mayC l[i]!) (by rw [Hn.out]; exact hlt) HX.out]; simp, HB2.out⟩
    · have hkn : k = n := by omega
      subst hkn
      go_wp2_with fail
      go_ret
      exact ⟨_, rfl, by unfold allC; rw [Hn.out, HL.out]; decide, HB.out⟩
set_option maxHeartbeats 1000000 in
theorem cobat_any (l : List Cl) (v : Value) (w : World) (hv : Row Cl.cs 2 w v l) (hl : l.length ≤ 1000000) (hok : ∀ x ∈ l, x.Ok) (q : Bool) (hq : allC l = q) :
    Calls Tryz.prog 44 #[v, .func (.func 45) #[] #[]] w fun e w' => e = .returned (.bool (!q)) ∧ Below w.heap.size w w' := by
  have HI := Lib.hid (fun W h => ixbat_any l v W h hl hok)
  have HV := Lib.hid hv
  have HQ := Lib.hid hq
  obtain ⟨A, c, rfl, hc, -⟩ := hv
  clear hq hok
  go_enter Tryz.func44, Tryz.ntmps44
  go_wp2_with fail
  refine (HI.out _ HV.out).mono ?_
  rintro e w1 ⟨r, rfl, hr, hb⟩
  rw [HQ.out] at hr
  have HR := Lib.hid hr
  have HB := Lib.hid hb
  clear hr hb
  go_wp2_with fail
  go_ret
  exact ⟨by rw [← HR.out]; rfl, HB.out⟩
set_option maxHeartbeats 1000000 in
theorem all_any (l : List Cl) (v : Value) (w : World) (hv : Row Cl.cs 2 w v l) (hl : l.length ≤ 1000000) (hok : ∀ x ∈ l, x.Ok) (q : Bool) (hq : (decide (l.length ≤ 64) && allC l) = q) :
    Calls Tryz.prog 74 #[v] w fun e w' => e = .returned (.bool q) ∧ Below w.heap.size w w' := by
  obtain ⟨qa, hqa⟩ : ∃ q, allC l = q := ⟨_, rfl⟩
  have HC := Lib.hid (fun W h => coall_any l v W h hl hok qa hqa)
  have HV := Lib.hid hv
  rw [hqa] at hq
  obtain ⟨A, c, rfl, hc, -⟩ := hv
  obtain ⟨n, hn⟩ : ∃ n, l.length = n := ⟨_, rfl⟩
  rw [hn] at hl hc hq HV HC ⊢
  clear hn hok hqa
  by_cases h64 : n ≤ 64
  · rw [decide_eq_true h64, Bool.true_and] at hq
    subst hq
    go_enter Tryz.func74, Tryz.ntmps74
    go_wp2_with fail
    refine (HC.out _ HV.out).mono ?_
    rintro e w1 ⟨rfl, hb⟩
    have HB := Lib.hid hb
    clear hb
    go_wp2_with fail
    go_ret
    exact ⟨by simp, HB.out⟩
  · rw [decide_eq_false h64, Bool.false_and] at hq
    subst hq
    go_enter Tryz.func74, Tryz.ntmps74
    go_wp2_with fail
    go_ret
    exact ⟨rfl, Below.refl _ _⟩
def CrRel (l : List Cl) (W1 : World) (i : Value) (wr : World) : Prop := ∃ k : Nat, k ≤ l.length ∧ i = .int .i64 k ∧ (List.range k).all (okAt l) = true ∧ Below W1.heap.size W1 wr
set_option maxRecDepth 100000 in
set_option maxHeartbeats 4000000 in
theorem sright_any (l f : List Cl) (d : Bool) (v u : Value) (w : World) (hv : OkRow w v l) (hu : OkRow w u f) (b : Bool) (hb : rightB l f = b) :
    Calls Tryz.prog 43 #[.agg #[v, u, .bool d]] w fun e w' => e = .returned (.bool b) ∧ Below w.heap.size w w' := by
  obtain ⟨hv, hok, hl⟩ := hv
  obtain ⟨hu, hok2, hl2⟩ := hu
  have RL := Lib.hid hv
  have RF := Lib.hid hu
  obtain ⟨qa, hqa⟩ : ∃ q, (decide (l.length ≤ 64) && allC l) = q := ⟨_, rfl⟩
  obtain ⟨qf, hqf⟩ : ∃ q, (decide (f.length ≤ 64) && allC f) = q := ⟨_, rfl⟩
  have HA := Lib.hid (fun W h => all_any l v W h hl hok qa hqa)
  have HF := Lib.hid (fun W h => all_any f u W h hl2 hok2 qf hqf)
  obtain ⟨A, c, rfl, -⟩ := hv
  obtain ⟨A', c', rfl, -⟩ := hu
  obtain ⟨m, hm⟩ : ∃ m, l.length = m := ⟨_, rfl⟩
  obtain ⟨m2, hm2⟩ : ∃ m, f.length = m := ⟨_, rfl⟩
  rw [hm] at RL HA hl ⊢
  rw [hm2] at RF HF ⊢
  have Hm := Lib.hid hm
  unfold rightB at hb
  rw [hqa, hqf] at hb
  have HBB := Lib.hid hb
  clear hm hm2 hok hok2 hqa hqf hb
  go_enter Tryz.func43, Tryz.ntmps43
  go_wp2_with fail
  obtain ⟨W1, hW2⟩ : ∃ X, X = (w).alloc (.cells #[.slice A m c, .slice A' m2 c', .bool d] 60) := ⟨_, rfl⟩
  rw [← hW2]
  have hb3 : Below w.heap.size w W1 := by rw [hW2]; exact bel_alloc (Below.refl _ _) _
  have Ns := Lib.hid (show W1.heap[w.heap.size]? = some (.cells #[.slice A m c, .slice A' m2 c', .bool d] 60 (0, 0)) by rw [hW2]; exact heap_at (w) _ (w.heap.size) (by simp))
  clear hW2
  have BB4 := Lib.hid hb3
  clear hb3
  have Bls := Ns
  clear Ns
  have R1 := Lib.hid (RL.out.below BB4.out)
  have R2 := Lib.hid (RF.out.below BB4.out)
  refine (HA.out _ R1.out).mono ?_
  rintro e w5 ⟨rfl, hb6⟩
  have Z := Lib.hid (heap_below Bls.out hb6)
  clear Bls
  have Bls := Z
  clear Z
  have Z := Lib.hid (Row.below R1.out hb6)
  clear R1
  have R1 := Z
  clear Z
  have Z := Lib.hid (Row.below R2.out hb6)
  clear R2
  have R2 := Z
  clear Z
  have BB7 := Lib.hid (bThen BB4.out hb6)
  clear hb6
  have zs := blk_lt Bls.out
  have xs0 := cellsAt Bls.out 0
  have xs1 := cellsAt Bls.out 1
  have xs2 := cellsAt Bls.out 2
  have fs := frozAt Bls.out
  simp at xs0 xs1 xs2
  cases qa with
  | false =>
    have hbb := HBB.out
    rw [Bool.false_and, Bool.false_and] at hbb
    subst hbb
    go_wp2_with fail
    go_ret
    exact ⟨rfl, BB7.out⟩
  | true =>
    go_wp2_with fail
    refine (HF.out _ R2.out).mono ?_
    rintro e w8 ⟨rfl, hb9⟩
    clear zs fs xs0 xs1 xs2
    have Z := Lib.hid (heap_below Bls.out hb9)
    clear Bls
    have Bls := Z
    clear Z
    have Z := Lib.hid (Row.below R1.out hb9)
    clear R1
    have R1 := Z
    clear Z
    have Z := Lib.hid (Row.below R2.out hb9)
    clear R2
    have R2 := Z
    clear Z
    have BB10 := Lib.hid (bThen BB7.out hb9)
    clear hb9
    have zs := blk_lt Bls.out
    have xs0 := cellsAt Bls.out 0
    have xs1 := cellsAt Bls.out 1
    have xs2 := cellsAt Bls.out 2
    have fs := frozAt Bls.out
    simp at xs0 xs1 xs2
    cases qf with
    | false =>
      have hbb := HBB.out
      rw [Bool.and_false, Bool.false_and] at hbb
      subst hbb
      go_wp2_with fail
      go_ret
      exact ⟨rfl, BB10.out⟩
    | true =>
      have HB2 := Lib.hid (show okC l = b by have hbb := HBB.out; simpa using hbb)
      go_wp2_with fail
      clear zs fs xs0 xs1 xs2
      go_loopw [18] (fun i wr => CrRel l w8 i wr) (fun i _ => m - (intOf i).toNat)
      case atStart => exact ⟨0, Nat.zero_le _, rfl, rfl, Below.refl _ _⟩
      case round =>
        obtain ⟨k, hk, rfl, hall, hbj⟩ := hrel
        rw [Hm.out] at hk
        have BJ := Lib.hid hbj
        have HALL := Lib.hid hall
        clear hall
        have Z := Lib.hid (heap_below Bls.out hbj)
        clear Bls
        have Bls := Z
        clear Z
        have Z := Lib.hid (Row.below R1.out hbj)
        clear R1
        have R1 := Z
        clear Z
        have Z := Lib.hid (Row.below R2.out hbj)
        clear R2
        have R2 := Z
        clear Z
        have BB11 := Lib.hid (bThen BB10.out hbj)
        clear hbj
        by_cases hlt : k < m
        · obtain ⟨x, hi⟩ : ∃ x, l[k]? = some x := ⟨_, List.getElem?_eq_getElem (by rw [Hm.out]; exact hlt)⟩
          have HX := Lib.hid hi
          obtain ⟨b1, o1, c3, e', hc', hb1, hX⟩ := R1.out.at_ hi
          injection e' with e1 e2 e3
          clear e2
          subst e1 e3
          have k0 := hX 0 _ rfl
          have k1 := hX 1 _ rfl
          clear hX hi
          simp only [Nat.add_zero] at k0 k1
          have HCK := Lib.hid (show okAt l k = (!noB x.b && (decide (k = 0) || ltS l[k - 1]!.n x.n)) by unfold okAt; rw [at_get HX.out])
          obtain ⟨xn, xb⟩ := x
          simp only at k0 k1 HCK
          have zs := blk_lt Bls.out
          have xs0 := cellsAt Bls.out 0
          have xs1 := cellsAt Bls.out 1
          have xs2 := cellsAt Bls.out 2
          have fs := frozAt Bls.out
          simp at xs0 xs1 xs2
          go_upto_region 6 with fail
          clear k0 k1
          obtain ⟨W12, hW13⟩ : ∃ X, X = (wr).alloc (.cells #[.string xn, .string xb] 64) := ⟨_, rfl⟩
          rw [← hW13]
          have hb14 : Below wr.heap.size wr W12 := by rw [hW13]; exact bel_alloc (Below.refl _ _) _
          have HBC0 := Lib.hid hb14
          have Nc := Lib.hid (show W12.heap[wr.heap.size]? = some (.cells #[.string xn, .string xb] 64 (0, 0)) by rw [hW13]; exact heap_at (wr) _ (wr.heap.size) (by simp))
          clear hW13
          have Z := Lib.hid (heap_below Bls.out hb14)
          clear Bls
          have Bls := Z
          clear Z
          have Z := Lib.hid (Row.below R1.out hb14)
          clear R1
          have R1 := Z
          clear Z
          have Z := Lib.hid (Row.below R2.out hb14)
          clear R2
          have R2 := Z
          clear Z
          have BB15 := Lib.hid (bThen BB11.out hb14)
          clear hb14
          have Blc := Nc
          clear Nc
          clear zs fs xs0 xs1 xs2
          have zs := blk_lt Bls.out
          have xs0 := cellsAt Bls.out 0
          have xs1 := cellsAt Bls.out 1
          have xs2 := cellsAt Bls.out 2
          have fs := frozAt Bls.out
          simp at xs0 xs1 xs2
          have zc := blk_lt Blc.out
          have xc0 := cellsAt Blc.out 0
          have xc1 := cellsAt Blc.out 1
          have fc := frozAt Blc.out
          simp at xc0 xc1
          obtain ⟨z, hz⟩ : ∃ z, noB xb = z := ⟨_, rfl⟩
          rw [hz] at HCK
          unfold noB at hz
          cases z with
          | true =>
            have HCQ := Lib.hid (show okAt l k = false by rw [HCK.out]; rfl)
            go_quiet (fail)
            obtain ⟨W16, hW17⟩ : ∃ X, X = W12.drewN nq := ⟨_, rfl⟩
            rw [← hW17]
            have hb18 : Below W12.heap.size W12 W16 := by rw [hW17]; exact bDrewN (Below.refl _ _)
            have HQD := Lib.hid hb18
            clear hW17
            clear zs fs xs0 xs1 xs2 zc fc xc0 xc1
            have Z := Lib.hid (heap_below Bls.out hb18)
            clear Bls
            have Bls := Z
            clear Z
            have Z := Lib.hid (heap_below Blc.out hb18)
            clear Blc
            have Blc := Z
            clear Z
            have Z := Lib.hid (Row.below R1.out hb18)
            clear R1
            have R1 := Z
            clear Z
            have Z := Lib.hid (Row.below R2.out hb18)
            clear R2
            have R2 := Z
            clear Z
            have BB19 := Lib.hid (bThen BB15.out hb18)
            clear hb18
            have zs := blk_lt Bls.out
            have xs0 := cellsAt Bls.out 0
            have xs1 := cellsAt Bls.out 1
            have xs2 := cellsAt Bls.out 2
            have fs := frozAt Bls.out
            simp at xs0 xs1 xs2
            have hbq := bThen (bThen BJ.out HBC0.out) HQD.out
            have hbb := HB2.out
            unfold okC at hbb
            rw [Hm.out, all_range_not _ hlt HCQ.out] at hbb
            subst hbb
            clear hbq
            go_wp2_with fail
            go_ret
            exact ⟨rfl, BB19.out⟩
          | false =>
            by_cases hk0 : k = 0
            · have HCQ := Lib.hid (show okAt l k = true by rw [HCK.out, decide_eq_true hk0]; rfl)
              have tk : decide (0 < (k : Int)) = false := by rw [hk0]; rfl
              have tk2 : decide (0 < k) = false := by rw [hk0]; rfl
              have HK0 := Lib.hid hk0
              clear hk0
              go_quiet (fail)
              obtain ⟨W16, hW17⟩ : ∃ X, X = W12.drewN nq := ⟨_, rfl⟩
              rw [← hW17]
              have hb18 : Below W12.heap.size W12 W16 := by rw [hW17]; exact bDrewN (Below.refl _ _)
              have HQD := Lib.hid hb18
              clear hW17
              clear zs fs xs0 xs1 xs2 zc fc xc0 xc1
              have Z := Lib.hid (heap_below Bls.out hb18)
              clear Bls
              have Bls := Z
              clear Z
              have Z := Lib.hid (heap_below Blc.out hb18)
              clear Blc
              have Blc := Z
              clear Z
              have Z := Lib.hid (Row.below R1.out hb18)
              clear R1
              have R1 := Z
              clear Z
              have Z := Lib.hid (Row.below R2.out hb18)
              clear R2
              have R2 := Z
              clear Z
              have BB19 := Lib.hid (bThen BB15.out hb18)
              clear hb18
              have zs := blk_lt Bls.out
              have xs0 := cellsAt Bls.out 0
              have xs1 := cellsAt Bls.out 1
              have xs2 := cellsAt Bls.out 2
              have fs := frozAt Bls.out
              simp at xs0 xs1 xs2
              have hbq := bThen (bThen BJ.out HBC0.out) HQD.out
              go_wp2_with fail
              go_roundw
              case rel => exact ⟨k + 1, by rw [Hm.out]; omega, by go_num, by rw [all_range_succ, HALL.out, HCQ.out]; rfl, hbq⟩
              case measure => simp [intOf]; omega
            · have tk : decide (0 < (k : Int)) = true := by simp; omega
              have tkn : decide (0 < k) = true := by simp; omega
              have hk1 : (1 : Int) ≤ (k : Int) := by omega
              have hk1n : 0 < k := by omega
              obtain ⟨y, hy⟩ : ∃ y, l[k - 1]? = some y := ⟨_, List.getElem?_eq_getElem (by rw [Hm.out]; omega)⟩
              have hyb := at_get hy
              obtain ⟨b2, o2, c4, e', -, hb2', hX⟩ := R1.out.at_ hy
              injection e' with e1 e2 e3
              clear e2
              injection e1 with e1
              injection e1 with e1 e1b
              subst e1 e1b e3
              have kp := hX 0 _ rfl
              clear hX hy
              rw [hyb, decide_eq_false hk0, Bool.false_or, Bool.not_false, Bool.true_and] at HCK
              obtain ⟨yn, yb⟩ := y
              simp only [Nat.add_zero] at kp HCK
              clear hyb
              have hkm : ((k : Int) - 1).toNat = k - 1 := by omega
              have hkm2 : (0 : Int) ≤ (k : Int) - 1 := by omega
              have hkm3 : (k : Int) - 1 < (m : Int) := by omega
              have hw1 : IntKind.i64.wrap ((k : Int) - 1) = (k : Int) - 1 := by rw [IntKind.wrap_i64]; omega
              obtain ⟨q, hq⟩ : ∃ q, ltS yn xn = q := ⟨_, rfl⟩
              rw [hq] at HCK
              unfold ltS at hq
              cases q with
              | true =>
                have HCQ := HCK
                go_quiet (fail)
                obtain ⟨W16, hW17⟩ : ∃ X, X = W12.drewN nq := ⟨_, rfl⟩
                rw [← hW17]
                have hb18 : Below W12.heap.size W12 W16 := by rw [hW17]; exact bDrewN (Below.refl _ _)
                have HQD := Lib.hid hb18
                clear hW17
                clear zs fs xs0 xs1 xs2 zc fc xc0 xc1
                have Z := Lib.hid (heap_below Bls.out hb18)
                clear Bls
                have Bls := Z
                clear Z
                have Z := Lib.hid (heap_below Blc.out hb18)
                clear Blc
                have Blc := Z
                clear Z
                have Z := Lib.hid (Row.below R1.out hb18)
                clear R1
                have R1 := Z
                clear Z
                have Z := Lib.hid (Row.below R2.out hb18)
                clear R2
                have R2 := Z
                clear Z
                have BB19 := Lib.hid (bThen BB15.out hb18)
                clear hb18
                have zs := blk_lt Bls.out
                have xs0 := cellsAt Bls.out 0
                have xs1 := cellsAt Bls.out 1
                have xs2 := cellsAt Bls.out 2
                have fs := frozAt Bls.out
                simp at xs0 xs1 xs2
                have hbq := bThen (bThen BJ.out HBC0.out) HQD.out
                go_wp2_with fail
                go_roundw
                case rel => exact ⟨k + 1, by rw [Hm.out]; omega, by go_num, by rw [all_range_succ, HALL.out, HCQ.out]; rfl, hbq⟩
                case measure => simp [intOf]; omega
              | false =>
                have HCQ := HCK
                go_quiet (fail)
                obtain ⟨W16, hW17⟩ : ∃ X, X = W12.drewN nq := ⟨_, rfl⟩
                rw [← hW17]
                have hb18 : Below W12.heap.size W12 W16 := by rw [hW17]; exact bDrewN (Below.refl _ _)
                have HQD := Lib.hid hb18
                clear hW17
                clear zs fs xs0 xs1 xs2 zc fc xc0 xc1
                have Z := Lib.hid (heap_below Bls.out hb18)
                clear Bls
                have Bls := Z
                clear Z
                have Z := Lib.hid (heap_below Blc.out hb18)
                clear Blc
                have Blc := Z
                clear Z
                have Z := Lib.hid (Row.below R1.out hb18)
                clear R1
                have R1 := Z
                clear Z
                have Z := Lib.hid (Row.below R2.out hb18)
                clear R2
                have R2 := Z
                clear Z
                have BB19 := Lib.hid (bThen BB15.out hb18)
                clear hb18
                have zs := blk_lt Bls.out
                have xs0 := cellsAt Bls.out 0
                have xs1 := cellsAt Bls.out 1
                have xs2 := cellsAt Bls.out 2
                have fs := frozAt Bls.out
                simp at xs0 xs1 xs2
                have hbq := bThen (bThen BJ.out HBC0.out) HQD.out
                have hbb := HB2.out
                unfold okC at hbb
                rw [Hm.out, all_range_not _ hlt HCQ.out] at hbb
                subst hbb
                clear hbq
                go_wp2_with fail
                go_ret
                exact ⟨rfl, BB19.out⟩
        · obtain rfl : k = m := by omega
          have hbb := HB2.out
          unfold okC at hbb
          rw [Hm.out, HALL.out] at hbb
          subst hbb
          go_wp2_with fail
          go_ret
          exact ⟨rfl, BB11.out⟩
def rokAt (l : List Cl) (i : Nat) : Bool := mayC l[i]! && okAt l i
theorem all_and (p q : Nat → Bool) (n : Nat) : (List.range n).all (fun i => p i && q i) = ((List.range n).all p && (List.range n).all q) := by
  induction n with
  | zero => rfl
  | succ n ih =>
    rw [all_range_succ, all_range_succ, all_range_succ, ih]
    cases (List.range n).all p <;> cases (List.range n).all q <;> cases p n <;> cases q n <;> rfl
theorem right_r (l f : List Cl) : rightB l f = ((List.range l.length).all (rokAt l) && (allC f && (decide (l.length ≤ 64) && decide (f.length ≤ 64)))) := by
  unfold rightB okC allC
  rw [show rokAt l = (fun i => mayC l[i]! && okAt l i) from rfl, all_and]
  cases decide (l.length ≤ 64) <;> cases decide (f.length ≤ 64) <;> cases (List.range l.length).all (okAt l) <;> cases (List.range l.length).all (fun i => mayC l[i]!) <;> cases (List.range f.length).all (fun i => mayC f[i]!) <;> rfl
def RrRel (l : List Cl) (W1 : World) (i : Value) (wr : World) : Prop := ∃ k : Nat, k ≤ l.length ∧ i = .int .i64 k ∧ (List.range k).all (rokAt l) = true ∧ Below W1.heap.size W1 wr
def RfRel (f : List Cl) (W1 : World) (i : Value) (wr : World) : Prop := ∃ k : Nat, k ≤ f.length ∧ i = .int .i64 k ∧ (List.range k).all (fun i => mayC f[i]!) = true ∧ Below W1.heap.size W1 wr
theorem yieldU : (yielded.match_1 (fun _ => Option Bool) (some undef) (fun b => some b) (fun _ => none)) = none := rfl
theorem bUndrewC {W w' : World} (h : Below W.drew.heap.size W.drew w') : Below W.heap.size W w' := ⟨h.os, h.tape, h.output, h.size, h.block⟩
def cmpS (a b : ByteArray) : Int := Lib.compareBytes a.data.toList b.data.toList
set_option maxRecDepth 100000 in
theorem cmps_any (a b : ByteArray) (w : World) : Calls Tryz.prog 106 #[.string a, .string b] w fun e w' => e = .returned (.int .i64 (cmpS a b)) ∧ w' = w := by
  go_enter Tryz.func106, Tryz.ntmps106
  go_wp2_with fail
  rw [run_callFunc_extern Tryz.func128 (by kernel_rfl) (by kernel_rfl) (by kernel_rfl) (e := Extern.BytealgCompare.compare) (by kernel_rfl), Lib.run_compareString]
  simp only [Result.andThen]
  rw [Oper.upon_value]
  go_wp2_with fail
  go_ret
  exact ⟨rfl, rfl⟩
theorem comp_any (a b : ByteArray) (w : World) : Calls Tryz.prog 80 #[.string a, .string b] w fun e w' => e = .returned (.int .i64 (cmpS a b)) ∧ w' = w := by
  go_enter Tryz.func80, Tryz.ntmps80
  go_wp2_with fail
  refine (cmps_any a b _).mono ?_
  rintro e w1 ⟨rfl, rfl⟩
  go_wp2_with fail
  go_ret
  exact ⟨rfl, rfl⟩
theorem findc_any (c : Cl) (t : ByteArray) (w : World) : Calls Tryz.prog 79 #[.agg #[.string c.n, .string c.b], .string t] w fun e w' => e = .returned (.int .i64 (cmpS c.n t)) ∧ Below w.heap.size w w' := by
  obtain ⟨n, b⟩ := c
  simp only
  go_enter Tryz.func79, Tryz.ntmps79
  go_wp2_with fail
  refine (comp_any n t _).mono ?_
  rintro e w1 ⟨rfl, rfl⟩
  go_wp2_with fail
  go_ret
  exact ⟨rfl, bel_alloc (Below.refl _ _) _⟩
def Asc (l : List Cl) : Prop := ∀ (a b : Nat) (x y : Cl), a < b → l[a]? = some x → l[b]? = some y → ltS x.n y.n = true
theorem asc_of {l : List Cl} (h : Rise l) : Asc l := by
  intro a b x y hab ha hb
  obtain ⟨h1, rfl⟩ := List.getElem?_eq_some_iff.1 ha
  obtain ⟨h2, rfl⟩ := List.getElem?_eq_some_iff.1 hb
  exact List.pairwise_iff_getElem.1 h a b h1 h2 hab
def BsRel (l : List Cl) (t : ByteArray) (w : World) (vi vj : Value) (wr : World) : Prop :=
  ∃ i j : Nat, i ≤ j ∧ j ≤ l.length ∧ vi = .int .i64 i ∧ vj = .int .i64 j ∧ (∀ (a : Nat) (x : Cl), a < i → l[a]? = some x → ltS x.n t = true) ∧ (∀ (a : Nat) (x : Cl), j ≤ a → l[a]? = some x → ltS x.n t = false) ∧ Below w.heap.size w wr
def SearchTo (l : List Cl) (t : ByteArray) (w : World) (e : Ending) (w' : World) : Prop := ∃ i : Nat, i ≤ l.length ∧ e = .returned (.tuple #[.int .i64 i, .bool (fndS l i t)]) ∧ atS l t i ∧ Below w.heap.size w w'
theorem atS_of {l : List Cl} {t : ByteArray} {i : Nat} (h1 : ∀ (a : Nat) (x : Cl), a < i → l[a]? = some x → ltS x.n t = true) (h2 : ∀ (a : Nat) (x : Cl), i ≤ a → l[a]? = some x → ltS x.n t = false) : atS l t i := by
  constructor
  · intro c hc
    obtain ⟨a, ha⟩ := List.getElem?_of_mem hc
    rw [List.getElem?_take] at ha
    split at ha
    · exact h1 a c (by assumption) ha
    · cases ha
  · intro c hc
    obtain ⟨a, ha⟩ := List.getElem?_of_mem hc
    rw [List.getElem?_drop] at ha
    exact h2 (i + a) c (by omega) ha
set_option maxHeartbeats 2000000 in
theorem search_any (l : List Cl) (t : ByteArray) (v : Value) (w : World) (hv : Row Cl.cs 2 w v l) (hl : l.length ≤ 1000000) (hs : Rise l) :
    Calls Tryz.prog 78 #[v, .string t, .func (.func 79) #[] #[]] w (SearchTo l t w) := by
  have HV := Lib.hid hv
  obtain ⟨A, c, rfl, hc, -⟩ := hv
  have HS := Lib.hid (asc_of hs)
  obtain ⟨n, hn⟩ : ∃ n, l.length = n := ⟨_, rfl⟩
  rw [hn] at hl hc HV ⊢
  have Hn := Lib.hid hn
  clear hn hs
  go_enter Tryz.func78, Tryz.ntmps78
  go_wp2_with fail
  go_loopw [9, 10] (fun vi vj wr => BsRel l t w vi vj wr) (fun vi vj _ => (intOf vj).toNat - (intOf vi).toNat)
  case atStart => exact ⟨0, n, Nat.zero_le _, by rw [Hn.out]; exact Nat.le_refl _, rfl, rfl, (fun a x h => absurd h (Nat.not_lt_zero _)), (fun a x h hx => by
    rw [List.getElem?_eq_none (by rw [Hn.out]; exact h)] at hx; cases hx), Below.refl _ _⟩
  case round =>
    obtain ⟨i, j, hij, hj, rfl, rfl, h1, h2, hbel⟩ := hrel
    rw [Hn.out] at hj
    have H1 := Lib.hid h1
    have H2 := Lib.hid h2
    have HB := Lib.hid hbel
    clear h1 h2 hbel
    by_cases hlt : i < j
    · obtain ⟨m, hm⟩ : ∃ m, m = (i + j) / 2 := ⟨_, rfl⟩
      have hmi : i ≤ m := by omega
      have hmj : m < j := by omega
      obtain ⟨x, hx⟩ : ∃ x, l[m]? = some x := ⟨_, List.getElem?_eq_getElem (by rw [Hn.out]; omega)⟩
      obtain ⟨b, o, c2, hv, -, hb, hX⟩ := HV.out.at_ hx
      injection hv with hv hv2 hv3
      subst hv
      clear hv2 hv3
      have e0 := (HB.out.cell (p := ⟨b, o + m * 2 + 0, none⟩) hb).trans (hX 0 _ rfl)
      have e1 := (HB.out.cell (p := ⟨b, o + m * 2 + 1, none⟩) hb).trans (hX 1 _ rfl)
      have HX := Lib.hid hx
      have HM := Lib.hid hm
      clear hX hx
      have HC := Lib.hid (fun W => findc_any x t W)
      obtain ⟨xn, xb⟩ := x
      simp only [Nat.add_zero] at e0 e1 HC
      rw [hm] at e0 e1
      clear hm
      go_wp2_with fail
      refine (HC.out _).mono ?_
      rintro e w2 ⟨rfl, hb2⟩
      have HB2 := Lib.hid (bThen HB.out hb2)
      clear hb2 HB e0 e1
      obtain ⟨cv, hcv⟩ : ∃ cv, cmpS xn t = cv := ⟨_, rfl⟩
      rw [hcv]
      by_cases hc2 : ltS xn t = true
      · have hneg : cv < 0 := by rw [← hcv]; exact (cmpS_lt _ _).2 hc2
        have HC2 := Lib.hid hc2
        clear hc2 hcv
        go_wp2_with fail
        go_roundw
        case rel =>
          refine ⟨m + 1, j, by omega, by rw [Hn.out]; omega, congrArg (Value.int .i64) (by have := HM.out; omega), rfl, fun a x h hx => ?_, H2.out, HB2.out⟩
          rcases Nat.lt_or_ge a m with h3 | h3
          · exact ltS_trans (HS.out a m x _ h3 hx HX.out) HC2.out
          · obtain rfl : a = m := by omega
            rw [HX.out] at hx
            injection hx with hx
            rw [← hx]; exact HC2.out
        case measure => simp [intOf]; omega
      · have hneg : ¬ cv < 0 := fun h => hc2 ((cmpS_lt _ _).1 (by rw [← hcv] at h; exact h))
        have HC2 := Lib.hid (show ltS xn t = false by simpa using hc2)
        clear hc2 hcv
        go_wp2_with fail
        go_roundw
        case rel =>
          refine ⟨i, m, by omega, by rw [Hn.out]; omega, rfl, congrArg (Value.int .i64) (by have := HM.out; omega), H1.out, fun a x h hx => ?_, HB2.out⟩
          rcases Nat.lt_or_ge m a with h3 | h3
          · have h5 := HS.out m a _ x h3 HX.out hx
            cases h6 : ltS x.n t with
            | false => rfl
            | true => have := ltS_trans h5 h6; rw [show (Cl.mk xn xb).n = xn from rfl, HC2.out] at this; cases this
          · obtain rfl : a = m := by omega
            rw [HX.out] at hx
            injection hx with hx
            rw [← hx]; exact HC2.out
        case measure => simp [intOf]; omega
    · have hije : i = j := by omega
      subst hije
      by_cases hin : i < n
      · obtain ⟨x, hx⟩ : ∃ x, l[i]? = some x := ⟨_, List.getElem?_eq_getElem (by rw [Hn.out]; omega)⟩
        obtain ⟨b, o, c2, hv, -, hb, hX⟩ := HV.out.at_ hx
        injection hv with hv hv2 hv3
        subst hv
        clear hv2 hv3
        have e0 := (HB.out.cell (p := ⟨b, o + i * 2 + 0, none⟩) hb).trans (hX 0 _ rfl)
        have e1 := (HB.out.cell (p := ⟨b, o + i * 2 + 1, none⟩) hb).trans (hX 1 _ rfl)
        have hfd : fndS l i t = eqB x.n t := by unfold fndS; rw [hx]
        have HF := Lib.hid hfd
        clear hX hx hfd
        have HC := Lib.hid (fun W => findc_any x t W)
        obtain ⟨xn, xb⟩ := x
        simp only [Nat.add_zero] at e0 e1 HC HF
        go_wp2_with fail
        refine (HC.out _).mono ?_
        rintro e w2 ⟨rfl, hb2⟩
        have HB2 := Lib.hid (bThen HB.out hb2)
        clear hb2 HB e0 e1
        obtain ⟨cv, hcv⟩ : ∃ cv, cmpS xn t = cv := ⟨_, rfl⟩
        rw [hcv]
        obtain ⟨q, hq⟩ : ∃ q : Bool, (cv == 0) = q := ⟨_, rfl⟩
        have hq2 : eqB xn t = q := by
          rw [← hq, ← hcv, Bool.eq_iff_iff, beq_iff_eq, eqB_iff]; exact (cmpS_eq _ _).symm
        have HQ := Lib.hid hq2
        clear hq2 hcv
        go_wp2_with fail
        go_ret2
        exact ⟨i, by rw [Hn.out]; omega, by rw [HF.out, HQ.out]; rfl, atS_of H1.out H2.out, HB2.out⟩
      · have hfd : fndS l i t = false := by unfold fndS; rw [List.getElem?_eq_none (by rw [Hn.out]; omega)]
        have HF := Lib.hid hfd
        clear hfd
        go_wp2_with fail
        go_ret2
        exact ⟨i, by rw [Hn.out]; omega, by rw [HF.out]; rfl, atS_of H1.out H2.out, HB.out⟩
set_option maxHeartbeats 1000000 in
theorem find_any (l : List Cl) (t : ByteArray) (v : Value) (w : World) (hv : Row Cl.cs 2 w v l) (hl : l.length ≤ 1000000) (hs : Rise l) :
    Calls Tryz.prog 51 #[v, .string t] w (SearchTo l t w) := by
  have HV := Lib.hid hv
  have HC := Lib.hid (fun W (h : Row Cl.cs 2 W v l) => search_any l t v W h hl hs)
  clear hv
  go_enter Tryz.func51, Tryz.ntmps51
  go_wp2_with fail
  refine (HC.out _ HV.out).mono ?_
  rintro e w1 ⟨i, hi, rfl, ha, hb⟩
  have HA := Lib.hid ha
  have HI := Lib.hid hi
  have HB := Lib.hid hb
  clear ha hi hb
  go_wp2_with fail
  go_ret2
  exact ⟨i, HI.out, rfl, HA.out, HB.out⟩
def readyE (l f : List Cl) (d : Bool) : Int := if rightB l f = true then (if d = true then 170 else 0) else 1
set_option maxHeartbeats 1000000 in
theorem ready_any (l f : List Cl) (d : Bool) (v u : Value) (w : World) (hv : OkRow w v l) (hu : OkRow w u f) (r : Int) (hr : readyE l f d = r) :
    Calls Tryz.prog 50 #[.agg #[v, u, .bool d]] w fun e w' => e = .returned (.int .i64 r) ∧ Below w.heap.size w w' := by
  obtain ⟨b, hb⟩ : ∃ b, rightB l f = b := ⟨_, rfl⟩
  have HV := Lib.hid hv
  have HU := Lib.hid hu
  have HC := Lib.hid (fun W h1 h2 => sright_any l f d v u W h1 h2 b hb)
  unfold readyE at hr
  rw [hb] at hr
  obtain ⟨⟨A, c, rfl, -⟩, -, -⟩ := hv
  obtain ⟨⟨A', c', rfl, -⟩, -, -⟩ := hu
  obtain ⟨m, hm⟩ : ∃ m, l.length = m := ⟨_, rfl⟩
  obtain ⟨m2, hm2⟩ : ∃ m, f.length = m := ⟨_, rfl⟩
  rw [hm] at HV HC ⊢
  rw [hm2] at HU HC ⊢
  clear hm hm2 hb
  have O1 := Lib.hid (fun W (hb : Below w.heap.size w W) => (⟨HV.out.1.below hb, HV.out.2⟩ : OkRow W _ l))
  have O2 := Lib.hid (fun W (hb : Below w.heap.size w W) => (⟨HU.out.1.below hb, HU.out.2⟩ : OkRow W _ f))
  go_enter Tryz.func50, Tryz.ntmps50
  go_wp2_with fail
  have hb0 := bel_alloc (Below.refl w.heap.size w) (.cells #[.slice A m c, .slice A' m2 c', .bool d] 60)
  refine (HC.out _ (O1.out _ hb0) (O2.out _ hb0)).mono ?_
  rintro e w1 ⟨rfl, hb1⟩
  have BS := heap_below (heap_at w (.cells #[.slice A m c, .slice A' m2 c', .bool d] 60) _ rfl) hb1
  have BW := Lib.hid (bThen hb0 hb1)
  have zs := blk_lt BS
  have s2 := cellsAt BS 2
  simp at s2
  clear hb0 hb1
  cases b with
  | false =>
    simp only [Bool.false_eq_true, if_false] at hr
    subst hr
    go_wp2_with fail
    go_ret
    exact ⟨rfl, BW.out⟩
  | true =>
    cases d with
    | true =>
      simp only [if_true] at hr
      subst hr
      go_wp2_with fail
      go_ret
      exact ⟨rfl, BW.out⟩
    | false =>
      simp only [Bool.false_eq_true, if_false, if_true] at hr
      subst hr
      go_wp2_with fail
      go_ret
      exact ⟨rfl, BW.out⟩
theorem Cl.cs_one {l : List Cl} : ∀ u ∈ l.flatMap Cl.cs, u.oneCell' = true := by
  intro u hu
  obtain ⟨x, -, hx⟩ := List.mem_flatMap.1 hu
  simp [Cl.cs] at hx
  rcases hx with rfl | rfl <;> rfl
def ClTo (l : List Cl) (w : World) (e : Ending) (w' : World) : Prop := ∃ v, e = .returned v ∧ w'.ownsRow w.heap.size 64 2 v l.length (l.flatMap Cl.cs) ∧ Below w.heap.size w w'
set_option maxHeartbeats 1000000 in
set_option maxRecDepth 100000 in
theorem clone_any (l : List Cl) (v : Value) (w : World) (hv : Row Cl.cs 2 w v l) (hl : l.length ≤ 1000000) :
    Calls Tryz.prog 49 #[v] w (ClTo l w) := by
  obtain ⟨i0, hi, hz0, hz1, hz2⟩ := info_parts info_cl
  have HV := Lib.hid hv
  obtain ⟨A, c, rfl, hc, hA⟩ := hv
  have HA := Lib.hid hA
  have HI := Lib.hid hi
  have HZ0 := Lib.hid hz0
  have HZ1 := Lib.hid hz1
  have HZ2 := Lib.hid hz2
  clear hi hz0 hz1 hz2 hA
  have heq := fun W : World => Lib.run_eql_slice_nil (P := Tryz.prog) W 58 64 A l.length c 0 0 Tryz.underlying58
  cases A with
  | none =>
    have hl0 : l = [] := by
      cases l with
      | nil => rfl
      | cons a l =>
        obtain ⟨b, o, h, -⟩ := HA.out (by simp)
        cases h
    subst hl0
    simp only [List.length_nil] at heq ⊢
    go_enter Tryz.func49, Tryz.ntmps49
    go_wp2_with fail
    go_ret
    exact ⟨_, rfl, World.ownsRow_nil _ _ _ _, Below.refl _ _⟩
  | some ad =>
    go_enter Tryz.func49, Tryz.ntmps49
    go_wp2_with (at_builtin; refine wpList_append_own _ rfl _ _ 58 rfl w.heap.size 64 i0 (.agg #[.string ⟨#[]⟩, .string ⟨#[]⟩]) 2 32 Tryz.underlying58 HI.out HZ0.out HZ1.out HZ2.out rfl (by decide) _ _ _ rfl (own_empty w w.heap.size 64 2 (Nat.le_refl _)) ad l.length c (l.flatMap Cl.cs) rfl (flat_len Cl.cs_len l) ?c1 ?c2 ?c3 ?c4 ?c5 ?_)
    case c1 =>
      intro j u hj
      have h0 : 0 < l.length := by
        cases l with
        | nil => simp at hj
        | cons a l => simp
      obtain ⟨b, o, h, hb, hx⟩ := HA.out h0
      obtain ⟨i, x, j', h1, h2, rfl⟩ := flat_inv Cl.cs_len hj
      injection h with h
      rw [h, add_at, ← Nat.add_assoc]
      exact (World.cell?_alloc_lt w _ _ hb).trans (hx i x j' u h1 h2)
    case c2 => intro u hu; exact Cl.cs_one u hu
    case c3 => unfold maxLen; omega
    case c4 => omega
    case c5 => simp
    intro v' W3 hown3 hgrow3 _
    have HO3 := Lib.hid hown3
    have HW3 := Lib.hid ((bel_alloc (Below.refl _ w) (.cells #[] 64)).grown hgrow3 (by simp) (fun q hq => by simp [Value.ownBlock] at hq; omega))
    clear hown3 hgrow3
    go_wp2_with fail
    go_ret
    refine ⟨_, rfl, ?_, HW3.out⟩
    simpa using HO3.out
theorem eqS (W : World) (d : Nat) (a b : ByteArray) : (Op.equalIn (d + 1) 9 (.string a) (.string b)).run Tryz.prog W = .ok (a.toList == b.toList) W := run_equalIn_string W d 9 a b Tryz.underlying9
def clEq (a b : Cl) : Bool := a.n.toList == b.n.toList && a.b.toList == b.b.toList
theorem eqCl (W : World) (a b : Cl) : (Op.equalIn 10000 64 (.agg #[.string a.n, .string a.b]) (.agg #[.string b.n, .string b.b])).run Tryz.prog W = .ok (clEq a b) W := by
  have hS : Tryz.prog.underlying 64 = some (.struct (Tryz.prog.fieldsOf 64)) := by kernel_rfl
  have hp : Tryz.prog.stoodInHeld 64 = false := by kernel_rfl
  have hS' : ∀ W (a b : ByteArray), (Op.equalIn 9999 9 (.string a) (.string b)).run Tryz.prog W = .ok (a.toList == b.toList) W := fun W => eqS W 9998
  unfold clEq
  rw [show (10000 : Nat) = 9999 + 1 from rfl, run_equalIn_agg W _ 64 _ _ hS hp]
  simp only [Program.fieldsOf, Tryz.underlying64]
  by_cases e1 : a.n.toList = b.n.toList <;> by_cases e4 : a.b.toList = b.b.toList <;> simp [Op.eqFields, go_sem, hS', e1, e4]
theorem clEq_refl (a : Cl) : clEq a a = true := by simp [clEq]
/-- A relation of a loop, kept out of the walk's sight. -/
def Drawn (w W : World) : Prop := ∃ n, W = w.drewN n
theorem flatR_take {α : Type} {enc : α → List Value} {k : Nat} (hk : ∀ x, (enc x).length = k) (l : List α) (i : Nat) : (l.flatMap enc).take (i * k) = (l.take i).flatMap enc := by
  induction l generalizing i with
  | nil => simp
  | cons x l ih =>
    cases i with
    | zero => simp
    | succ i =>
      rw [List.flatMap_cons, List.take_succ_cons, List.flatMap_cons, ← ih i]
      rw [show (i + 1) * k = (enc x).length + i * k by rw [hk, Nat.succ_mul]; omega, List.take_length_add_append]
theorem flatR_drop {α : Type} {enc : α → List Value} {k : Nat} (hk : ∀ x, (enc x).length = k) (l : List α) (i : Nat) : (l.flatMap enc).drop (i * k) = (l.drop i).flatMap enc := by
  induction l generalizing i with
  | nil => simp
  | cons x l ih =>
    cases i with
    | zero => simp
    | succ i =>
      rw [List.flatMap_cons, List.drop_succ_cons, ← ih i]
      rw [show (i + 1) * k = (enc x).length + i * k by rw [hk, Nat.succ_mul]; omega, List.drop_length_add_append]
/-- A row of cells of one's own. -/
def OwnC (base : Nat) (w : World) (v : Value) (l : List Cl) : Prop := w.ownsRow base 64 2 v l.length (l.flatMap Cl.cs)
def WithTo (base : Nat) (l : List Cl) (w : World) (e : Ending) (w' : World) : Prop := ∃ v, e = .returned v ∧ OwnC base w' v l ∧ Below base w w'
theorem own_any {w : World} {base : Nat} {v : Value} {l : List Cl} (h : OwnC base w v l) : Row Cl.cs 2 w v l := Row.of_own Cl.cs_len h rfl
set_option maxRecDepth 100000 in
set_option maxHeartbeats 4000000 in
theorem with_any (base : Nat) (l : List Cl) (x : Cl) (v : Value) (w : World) (hown : OwnC base w v l) (hbase : base ≤ w.heap.size) (hl : l.length ≤ 900000) (hs : Rise l) :
    Calls Tryz.prog 105 #[v, .agg #[.string x.n, .string x.b]] w (WithTo base (withL l x) w) := by
  have HF := Lib.hid (fun W h => find_any l x.n v W h (by omega) hs)
  have HO := Lib.hid hown
  have HS := Lib.hid hs
  obtain ⟨n, hn⟩ : ∃ n, l.length = n := ⟨_, rfl⟩
  have Hn := Lib.hid hn
  obtain ⟨A, c, rfl⟩ := own_slice hown
  rw [hn] at HF HO hl ⊢
  unfold WithTo
  obtain ⟨xn, xb⟩ := x
  have HWX := Lib.hid (fun i h1 h2 h3 => @with_eq l ⟨xn, xb⟩ i h1 h2 h3)
  obtain ⟨L, hL⟩ : ∃ L, withL l ⟨xn, xb⟩ = L := ⟨_, rfl⟩
  rw [hL]
  have HL := Lib.hid hL
  simp only at HF ⊢
  clear hown hs hn hL
  go_enter Tryz.func105, Tryz.ntmps105
  go_wp2_with fail
  have HA0 := bel_alloc (Below.refl w.heap.size w) (.cells #[.string xn, .string xb] 64)
  refine (HF.out _ ((own_any HO.out).below HA0)).mono ?_
  rintro e w1 ⟨i, hi, rfl, hat, hb1⟩
  have hx := heap_below (heap_at w (.cells #[.string xn, .string xb] 64) _ rfl) hb1
  have BX := Lib.hid hx
  have zx := blk_lt hx
  have x0 := cellsAt hx 0
  have x1 := cellsAt hx 1
  have fx := frozAt hx
  simp at x0 x1
  have hb2 := bThen HA0 hb1
  have O1 := Lib.hid (own_below HO.out hb2)
  have B1 := Lib.hid (hb2.mono hbase)
  clear hx HA0 hb1 hb2 HO HF
  have HAT := Lib.hid hat
  clear hat
  obtain ⟨f, hf⟩ : ∃ f, fndS l i xn = f := ⟨_, rfl⟩
  have HEQ := Lib.hid (HWX.out _ HS.out HAT.out hi)
  rw [Hn.out] at hi
  have HFD := Lib.hid hf
  rw [hf]
  clear hf
  obtain ⟨z, hz⟩ : ∃ z, noB xb = z := ⟨_, rfl⟩
  have HZ := Lib.hid hz
  unfold noB at hz
  have hbz : base ≤ w1.heap.size := by have := B1.out.size; omega
  cases f with
  | true =>
    have hin : i < n := by
      rcases Nat.lt_or_ge i n with h | h
      · exact h
      · have := HFD.out
        unfold fndS at this
        rw [List.getElem?_eq_none (by rw [Hn.out]; exact h)] at this
        cases this
    obtain ⟨m, hm⟩ : ∃ m, n = m + 1 := ⟨n - 1, by omega⟩
    have HM := Lib.hid hm
    have hwi : wrap64 ((i : Int) + 1) = (i : Int) + 1 := IntWalk.wrap64_in _ (by omega)
    have hwj : IntKind.i64.wrap ((i : Int) + 1) = (i : Int) + 1 := by rw [IntKind.wrap_i64]; omega
    cases z with
    | true =>
      have hd : Hid (Calls Tryz.prog 126 #[.slice A n c, .int .i64 i, .int .i64 ((i : Int) + 1)] w1 (lcDelTo base m i (.slice A n c) (l.flatMap Cl.cs) w1)) := Lib.hid (lcdelete base m i _ _ w1 (by have h := O1.out; unfold OwnC at h; rw [Hn.out, HM.out] at h; rw [HM.out]; exact h) (by omega) Cl.cs_one)
      clear hm
      go_wp2_with fail
      refine hd.out.mono ?_
      rintro e w2 ⟨v2, rfl, ho2, hg2⟩
      have HO2 := Lib.hid ho2
      have B2 := Lib.hid (B1.out.grown hg2 hbz (fun q hq => (O1.out.lt _ hq).1))
      clear ho2 hg2
      go_wp2_with fail
      go_ret
      refine ⟨_, rfl, ?_, B2.out⟩
      have h := HO2.out
      rw [flatR_take Cl.cs_len, flatR_drop Cl.cs_len, ← List.flatMap_append] at h
      have e1 : L = l.take i ++ l.drop (i + 1) := by
        rw [← HL.out, HEQ.out, if_pos HZ.out, if_pos HFD.out, List.nil_append]
      unfold OwnC
      rw [e1]
      have e2 : (l.take i ++ l.drop (i + 1)).length = m := by
        rw [List.length_append, List.length_take, List.length_drop, Hn.out]; have := HM.out; omega
      rw [e2]
      exact h
    | false =>
      have hA : ∃ g, A = some ⟨g, 0, none⟩ ∧ base ≤ g ∧ g < w1.heap.size := by
        have h := O1.out
        unfold OwnC at h
        rw [Hn.out] at h
        obtain ⟨g, cap, e, h1, h2, -⟩ := own_form h (by omega)
        injection e with e1 e2 e3
        exact ⟨g, e1, h1, h2⟩
      obtain ⟨g, rfl, hg1, hg2⟩ := hA
      have ho := O1.out
      unfold OwnC at ho
      rw [Hn.out] at ho
      have hq0 := ho.cellAt (i * 2) (by omega)
      have hq1 := ho.cellAt (i * 2 + 1) (by omega)
      obtain ⟨y, hy⟩ : ∃ y, l[i]? = some y := ⟨_, List.getElem?_eq_getElem (by rw [Hn.out]; omega)⟩
      have HY := Lib.hid hy
      rw [show i * 2 = i * 2 + 0 by omega, flat_at Cl.cs_len hy rfl] at hq0
      rw [flat_at Cl.cs_len hy rfl] at hq1
      simp only [Nat.add_zero] at hq0
      have hf0 := fun j => ho.frozenAt j
      have HOO := Lib.hid ho
      have HOX := Lib.hid (((ho.stored (i * 2 + 0) (.string xn)).1.stored (i * 2 + 1) (.string xb)).1)
      have HBB := Lib.hid ((B1.out.setCell (p := ⟨g, i * 2 + 0, none⟩) hg1 (.string xn)).setCell (p := ⟨g, i * 2 + 1, none⟩) hg1 (.string xb))
      clear hm ho hy
      go_wp2_with fail
      go_ret
      refine ⟨_, rfl, ?_, HBB.out⟩
      have h := HOX.out
      rw [flat_set Cl.cs_len (x' := ⟨xn, y.b⟩) HY.out (by decide) rfl, flat_set Cl.cs_len (l := l.set i ⟨xn, y.b⟩) (i := i) (x := ⟨xn, y.b⟩) (x' := ⟨xn, xb⟩) (by rw [List.getElem?_set_self (by rw [Hn.out]; exact hin)]) (by decide) rfl, List.set_set] at h
      have e1 : L = l.set i ⟨xn, xb⟩ := by
        rw [← HL.out, HEQ.out, if_neg (by rw [HZ.out]; simp), if_pos HFD.out, List.set_eq_take_append_cons_drop, if_pos (by rw [Hn.out]; exact hin)]
        rfl
      unfold OwnC
      rw [e1, List.length_set, Hn.out]
      exact h
  | false =>
    cases z with
    | true =>
      go_wp2_with fail
      go_ret
      refine ⟨_, rfl, ?_, B1.out⟩
      have e1 : L = l := by
        rw [← HL.out, HEQ.out, if_pos HZ.out, if_neg (by rw [HFD.out]; simp), List.nil_append, List.take_append_drop]
      rw [e1]
      exact O1.out
    | false =>
      have hd : ∀ (W : World) (vb : Nat), W.heap[vb]? = some (.cells #[.string xn, .string xb] 64 (0, 0)) → Below w1.heap.size w1 W → w1.heap.size ≤ vb → Calls Tryz.prog 127 #[.slice A n c, .int .i64 i, .slice (some ⟨vb, 0, none⟩) 1 1] W (lcInsTo base n i (.slice A n c) (l.flatMap Cl.cs) [.string xn, .string xb] W) := fun W vb h1 hb h2 =>
        lcinsert base n i vb _ _ [.string xn, .string xb] 64 W (own_below (by have h := O1.out; unfold OwnC at h; rw [Hn.out] at h; exact h) hb) (by have := hb.size; omega) (by omega) hi (fun e => by
          have h := O1.out
          unfold OwnC at h
          rw [Hn.out] at h
          have := (h.lt vb e).2
          omega) h1 rfl Cl.cs_one (by intro u hu; simp at hu; rcases hu with rfl | rfl <;> rfl)
      have HD := Lib.hid hd
      clear hd
      go_wp2_with fail
      refine (HD.out _ _ (heap_at w1 _ _ rfl) (bel_alloc (Below.refl _ _) _) (Nat.le_refl _)).mono ?_
      rintro e w2 ⟨v2, rfl, ho2, hg2⟩
      have HO2 := Lib.hid ho2
      have hbA : Below base w (w1.alloc (.cells #[.string xn, .string xb] 64)) := B1.out.alloc hbz _
      have B2 := Lib.hid (hbA.grown hg2 (by simp; omega) (fun q hq => (O1.out.lt _ hq).1))
      clear ho2 hg2 hbA
      go_wp2_with fail
      go_ret
      refine ⟨_, rfl, ?_, B2.out⟩
      have h := HO2.out
      rw [flatR_take Cl.cs_len, flatR_drop Cl.cs_len] at h
      have e1 : L = l.take i ++ ([⟨xn, xb⟩] ++ l.drop i) := by
        rw [← HL.out, HEQ.out, if_neg (by rw [HZ.out]; simp), if_neg (by rw [HFD.out]; simp)]
      unfold OwnC
      rw [e1, List.flatMap_append, List.flatMap_append]
      have e2 : (l.take i ++ ([(⟨xn, xb⟩ : Cl)] ++ l.drop i)).length = n + 1 := by
        simp only [List.length_append, List.length_take, List.length_drop, Hn.out, List.length_singleton]; omega
      rw [e2]
      exact h
end Go.Proofs.YtlboehpgpbchhaaGreat.Sto
