/-
  WALKS of the law TopDue: a timer goes down in a heap (printed by mkDueW5.py).
-/
import Derived.Test.YtlboehpgpbchhaaDueW4
set_option linter.unusedVariables false
set_option linter.unusedSimpArgs false
namespace Go.Proofs.Ytlboehpgpbchhaa
open Go.RowKit

def DnRel (hb : Nat) (v : Value) (l : List Tm) (n : Nat) (w : World) (i : Value) (wr : World) : Prop :=
  ∃ (j : Nat) (l' : List Tm), i = .int .i64 j ∧ j ≤ n ∧ l'.Perm l ∧ DnI (key l') n j ∧ (∀ x, n ≤ x → l'[x]? = l[x]?) ∧ HpAt hb v l' wr ∧ w.grownBy wr v.ownBlock
def DnTo (hb : Nat) (v : Value) (l : List Tm) (n : Nat) (w w' : World) : Prop :=
  (∃ l', l'.Perm l ∧ HpF (key l') n ∧ (∀ x, n ≤ x → l'[x]? = l[x]?) ∧ HpAt hb v l' w') ∧ w.grownBy w' v.ownBlock
theorem swp_out {l : List Tm} {i j n x : Nat} (hi : i < n) (hj : j < n) (hx : n ≤ x) : (swpL l i j)[x]? = l[x]? := by
  unfold swpL
  split
  · rw [List.getElem?_set_ne (by omega), List.getElem?_set_ne (by omega)]
  · rfl
set_option maxRecDepth 100000 in
set_option maxHeartbeats 8000000 in
theorem down_any (hb : Nat) (v : Value) (l : List Tm) (n : Nat) (w : World) (hw : HpAt hb v l w) (hj : n ≤ l.length) (hm : l.length ≤ 1000) (hI : DnI (key l) n 0) :
    Calls Try.prog 88 #[.iface 100 (.pointer (some ⟨hb, 0, none⟩)), .int .i64 0, .int .i64 n] w fun e w' => (∃ b, e = .returned (.bool b)) ∧ DnTo hb v l n w w' := by
  have HW := Lib.hid hw
  have HI := Lib.hid hI
  obtain ⟨A, c, rfl⟩ := own_slice hw.2
  obtain ⟨m, hn⟩ : ∃ n, l.length = n := ⟨_, rfl⟩
  have HN := Lib.hid hn
  rw [hn] at HW hm hj ⊢
  clear hw hI hn
  go_enter Try.func88, Try.ntmps88
  go_wp2_with fail
  go_loopw [7] (fun i wr => DnRel hb (.slice A m c) l n w i wr) (fun i _ => n - (intOf i).toNat)
  case atStart => exact ⟨0, l, rfl, Nat.zero_le _, List.Perm.refl _, HI.out, fun _ _ => rfl, HW.out, gby_refl _ _⟩
  case round =>
    obtain ⟨i, l', rfl, hin, hper, hdn, hout, hat, hgr⟩ := hrel
    have hl' : l'.length = m := by rw [hper.length_eq]; exact HN.out
    have HP := Lib.hid hper
    have HD := Lib.hid hdn
    have HT := Lib.hid hout
    have HA := Lib.hid hat
    have HG := Lib.hid hgr
    have HL := Lib.hid hl'
    have hcell := cellsAt hat.1 0
    simp at hcell
    have mL := met_less hb A m c wr hcell
    clear hper hdn hat hgr hl' hout
    by_cases h1 : n ≤ 2 * i + 1
    · have d1 : decide ((n : Int) ≤ 2 * (i : Int) + 1) = true := decide_eq_true (by omega)
      go_wp2_with fail
      go_ret
      exact ⟨⟨_, rfl⟩, ⟨l', HP.out, dn_stop HD.out (fun c c0 hc hq => by omega), HT.out, HA.out⟩, HG.out⟩
    · have d1 : decide ((n : Int) ≤ 2 * (i : Int) + 1) = false := decide_eq_false (by omega)
      have d2 : decide (2 * (i : Int) + 1 < 0) = false := decide_eq_false (by omega)
      by_cases h2 : 2 * i + 2 < n
      · have d3 : decide (2 * (i : Int) + 1 + 1 < (n : Int)) = true := decide_eq_true (by omega)
        have hj1 : (2 * (i : Int) + 1) = ((2 * i + 1 : Nat) : Int) := by omega
        have hj2 : (2 * (i : Int) + 1 + 1) = ((2 * i + 2 : Nat) : Int) := by omega
        have HL0 := Lib.hid (tless_any l' _ _ (Row.of_own Tm.cs_len HA.out.2 rfl) (2 * i + 2) (2 * i + 1) (by rw [HL.out]; omega) (by rw [HL.out]; omega) (by rw [HL.out]; omega))
        rw [← hj1, ← hj2] at HL0
        clear hj1 hj2
        go_wp2_with fail
        refine HL0.out.mono ?_
        rintro e w2 ⟨rfl, hb2⟩
        obtain ⟨q, hq⟩ : ∃ q, ltT (l'[2 * i + 2]'(by rw [HL.out]; omega)) (l'[2 * i + 1]'(by rw [HL.out]; omega)) = q := ⟨_, rfl⟩
        rw [hq]
        have HQ := Lib.hid hq
        have HA4 := Lib.hid (HA.out.below hb2)
        have HG4 := Lib.hid (gby_bel HG.out hb2)
        clear hq hb2 mL hcell
        cases q with
        | false =>
          have HMIN := Lib.hid (show ∀ c, 0 < c → c < n → (c - 1) / 2 = i → key l' (2 * i + 1) ≤ key l' c from by
            have h1 := ltT_no HQ.out
            rw [← key_at, ← key_at] at h1
            intro c c0 hc hq
            rcases (show c = 2 * i + 1 ∨ c = 2 * i + 2 by omega) with rfl | rfl
            · exact Int.le_refl _
            · exact h1)
          have hA4 := HA4.out
          have hcell := cellsAt hA4.1 0
          simp at hcell
          have mL := met_less hb A m c w2 hcell
          clear hA4
          obtain ⟨j, hj⟩ : ∃ j, 2 * i + 1 = j := ⟨_, rfl⟩
          have hji : (2 * (i : Int) + 1) = (j : Int) := by omega
          rw [hj] at HMIN
          have hjn : j < n := by omega
          have hjp : (j - 1) / 2 = i := by omega
          have hj0 : 0 < j := by omega
          have HJP := Lib.hid hjp
          clear hjp
          have hij : i < j := by omega
          go_wp2_with fail
          refine (tless_any l' _ _ (Row.of_own Tm.cs_len HA4.out.2 rfl) j i (by rw [HL.out]; omega) (by rw [HL.out]; omega) (by rw [HL.out]; omega)).mono ?_
          rintro e w5 ⟨rfl, hb5⟩
          obtain ⟨q, hq⟩ : ∃ q, ltT (l'[j]'(by rw [HL.out]; omega)) (l'[i]'(by rw [HL.out]; omega)) = q := ⟨_, rfl⟩
          rw [hq]
          have HQ5 := Lib.hid hq
          have HA5 := Lib.hid (HA4.out.below hb5)
          have HG5 := Lib.hid (gby_bel HG4.out hb5)
          clear hq hb5 mL hcell
          cases q with
          | false =>
            go_wp2_with fail
            go_ret
            refine ⟨⟨_, rfl⟩, ⟨l', HP.out, dn_stop HD.out (fun c c0 hc hq => ?_), HT.out, HA5.out⟩, HG5.out⟩
            have h1 := ltT_no HQ5.out
            rw [← key_at, ← key_at] at h1
            exact Int.le_trans h1 (HMIN.out c c0 hc hq)
          | true =>
            have hA5 := HA5.out
            have hcell := cellsAt hA5.1 0
            simp at hcell
            have mS := met_swap hb A m c w5 hcell
            clear hA5
            go_wp2_with fail
            refine (tswap_any (hb + 1) l' _ _ (by have h := HA5.out.2; exact h) (by rw [HL.out]; omega) i j (by rw [HL.out]; omega) (by rw [HL.out]; omega)).mono ?_
            rintro e w6 ⟨rfl, ho6, hg6⟩
            have HO6 := Lib.hid ho6
            have HG6 := Lib.hid hg6
            clear ho6 hg6 mS hcell
            go_wp2_with fail
            go_roundw
            case rel =>
              have hne2 := HA5.out.blk
              refine ⟨j, swpL l' i j, rfl, by omega, (swp_perm _ _ _).trans HP.out, ?_, fun x hx => (swp_out (by omega) hjn hx).trans (HT.out x hx), ⟨heap_grown' HA5.out.1 HG6.out hne2, by rw [swpL_len]; exact HO6.out⟩, HG5.out.trans HG6.out⟩
              have h1 := ltT_yes HQ5.out
              rw [← key_at, ← key_at] at h1
              refine dn_step HD.out hj0 hjn HJP.out HMIN.out h1 fun x => ?_
              exact key_swp (by rw [HL.out]; omega) (by rw [HL.out]; omega) x
            case measure => simp [intOf]; omega
        | true =>
          have HMIN := Lib.hid (show ∀ c, 0 < c → c < n → (c - 1) / 2 = i → key l' (2 * i + 2) ≤ key l' c from by
            have h1 := ltT_yes HQ.out
            rw [← key_at, ← key_at] at h1
            intro c c0 hc hq
            rcases (show c = 2 * i + 1 ∨ c = 2 * i + 2 by omega) with rfl | rfl
            · exact h1
            · exact Int.le_refl _)
          have hA4 := HA4.out
          have hcell := cellsAt hA4.1 0
          simp at hcell
          have mL := met_less hb A m c w2 hcell
          clear hA4
          obtain ⟨j, hj⟩ : ∃ j, 2 * i + 2 = j := ⟨_, rfl⟩
          have hji : (2 * (i : Int) + 1 + 1) = (j : Int) := by omega
          rw [hj] at HMIN
          have hjn : j < n := by omega
          have hjp : (j - 1) / 2 = i := by omega
          have hj0 : 0 < j := by omega
          have HJP := Lib.hid hjp
          clear hjp
          have hij : i < j := by omega
          go_wp2_with fail
          refine (tless_any l' _ _ (Row.of_own Tm.cs_len HA4.out.2 rfl) j i (by rw [HL.out]; omega) (by rw [HL.out]; omega) (by rw [HL.out]; omega)).mono ?_
          rintro e w5 ⟨rfl, hb5⟩
          obtain ⟨q, hq⟩ : ∃ q, ltT (l'[j]'(by rw [HL.out]; omega)) (l'[i]'(by rw [HL.out]; omega)) = q := ⟨_, rfl⟩
          rw [hq]
          have HQ5 := Lib.hid hq
          have HA5 := Lib.hid (HA4.out.below hb5)
          have HG5 := Lib.hid (gby_bel HG4.out hb5)
          clear hq hb5 mL hcell
          cases q with
          | false =>
            go_wp2_with fail
            go_ret
            refine ⟨⟨_, rfl⟩, ⟨l', HP.out, dn_stop HD.out (fun c c0 hc hq => ?_), HT.out, HA5.out⟩, HG5.out⟩
            have h1 := ltT_no HQ5.out
            rw [← key_at, ← key_at] at h1
            exact Int.le_trans h1 (HMIN.out c c0 hc hq)
          | true =>
            have hA5 := HA5.out
            have hcell := cellsAt hA5.1 0
            simp at hcell
            have mS := met_swap hb A m c w5 hcell
            clear hA5
            go_wp2_with fail
            refine (tswap_any (hb + 1) l' _ _ (by have h := HA5.out.2; exact h) (by rw [HL.out]; omega) i j (by rw [HL.out]; omega) (by rw [HL.out]; omega)).mono ?_
            rintro e w6 ⟨rfl, ho6, hg6⟩
            have HO6 := Lib.hid ho6
            have HG6 := Lib.hid hg6
            clear ho6 hg6 mS hcell
            go_wp2_with fail
            go_roundw
            case rel =>
              have hne2 := HA5.out.blk
              refine ⟨j, swpL l' i j, rfl, by omega, (swp_perm _ _ _).trans HP.out, ?_, fun x hx => (swp_out (by omega) hjn hx).trans (HT.out x hx), ⟨heap_grown' HA5.out.1 HG6.out hne2, by rw [swpL_len]; exact HO6.out⟩, HG5.out.trans HG6.out⟩
              have h1 := ltT_yes HQ5.out
              rw [← key_at, ← key_at] at h1
              refine dn_step HD.out hj0 hjn HJP.out HMIN.out h1 fun x => ?_
              exact key_swp (by rw [HL.out]; omega) (by rw [HL.out]; omega) x
            case measure => simp [intOf]; omega
      · have d3 : decide (2 * (i : Int) + 1 + 1 < (n : Int)) = false := decide_eq_false (by omega)
        have HA4 := Lib.hid HA.out
        have HG4 := Lib.hid HG.out
        clear mL hcell
        have HMIN := Lib.hid (show ∀ c, 0 < c → c < n → (c - 1) / 2 = i → key l' (2 * i + 1) ≤ key l' c from by
          intro c c0 hc hq
          obtain rfl : c = 2 * i + 1 := by omega
          exact Int.le_refl _)
        have hA4 := HA4.out
        have hcell := cellsAt hA4.1 0
        simp at hcell
        have mL := met_less hb A m c wr hcell
        clear hA4
        obtain ⟨j, hj⟩ : ∃ j, 2 * i + 1 = j := ⟨_, rfl⟩
        have hji : (2 * (i : Int) + 1) = (j : Int) := by omega
        rw [hj] at HMIN
        have hjn : j < n := by omega
        have hjp : (j - 1) / 2 = i := by omega
        have hj0 : 0 < j := by omega
        have HJP := Lib.hid hjp
        clear hjp
        have hij : i < j := by omega
        go_wp2_with fail
        refine (tless_any l' _ _ (Row.of_own Tm.cs_len HA4.out.2 rfl) j i (by rw [HL.out]; omega) (by rw [HL.out]; omega) (by rw [HL.out]; omega)).mono ?_
        rintro e w5 ⟨rfl, hb5⟩
        obtain ⟨q, hq⟩ : ∃ q, ltT (l'[j]'(by rw [HL.out]; omega)) (l'[i]'(by rw [HL.out]; omega)) = q := ⟨_, rfl⟩
        rw [hq]
        have HQ5 := Lib.hid hq
        have HA5 := Lib.hid (HA4.out.below hb5)
        have HG5 := Lib.hid (gby_bel HG4.out hb5)
        clear hq hb5 mL hcell
        cases q with
        | false =>
          go_wp2_with fail
          go_ret
          refine ⟨⟨_, rfl⟩, ⟨l', HP.out, dn_stop HD.out (fun c c0 hc hq => ?_), HT.out, HA5.out⟩, HG5.out⟩
          have h1 := ltT_no HQ5.out
          rw [← key_at, ← key_at] at h1
          exact Int.le_trans h1 (HMIN.out c c0 hc hq)
        | true =>
          have hA5 := HA5.out
          have hcell := cellsAt hA5.1 0
          simp at hcell
          have mS := met_swap hb A m c w5 hcell
          clear hA5
          go_wp2_with fail
          refine (tswap_any (hb + 1) l' _ _ (by have h := HA5.out.2; exact h) (by rw [HL.out]; omega) i j (by rw [HL.out]; omega) (by rw [HL.out]; omega)).mono ?_
          rintro e w6 ⟨rfl, ho6, hg6⟩
          have HO6 := Lib.hid ho6
          have HG6 := Lib.hid hg6
          clear ho6 hg6 mS hcell
          go_wp2_with fail
          go_roundw
          case rel =>
            have hne2 := HA5.out.blk
            refine ⟨j, swpL l' i j, rfl, by omega, (swp_perm _ _ _).trans HP.out, ?_, fun x hx => (swp_out (by omega) hjn hx).trans (HT.out x hx), ⟨heap_grown' HA5.out.1 HG6.out hne2, by rw [swpL_len]; exact HO6.out⟩, HG5.out.trans HG6.out⟩
            have h1 := ltT_yes HQ5.out
            rw [← key_at, ← key_at] at h1
            refine dn_step HD.out hj0 hjn HJP.out HMIN.out h1 fun x => ?_
            exact key_swp (by rw [HL.out]; omega) (by rw [HL.out]; omega) x
          case measure => simp [intOf]; omega
end Go.Proofs.Ytlboehpgpbchhaa
