/-
  WALKS of the law TopDue: a timer goes up in a heap.
-/
import Derived.Test.YtlboehpgpbchhaaDueW3
import Derived.Test.YtlboehpgpbchhaaDueP1
import Derived.Test.YtlboehpgpbchhaaTopW23
set_option linter.unusedVariables false
set_option linter.unusedSimpArgs false
namespace Go.Proofs.Ytlboehpgpbchhaa
open Go.RowKit

theorem gby_refl (w : World) (r : Option Nat) : w.grownBy w r := ⟨rfl, rfl, rfl, Nat.le_refl _, fun _ _ _ => rfl⟩
theorem HpAt.below {hb : Nat} {v : Value} {l : List Tm} {w w' : World} (h : HpAt hb v l w) (hbl : Below w.heap.size w w') : HpAt hb v l w' := ⟨heap_below h.1 hbl, own_below h.2 hbl⟩
theorem HpAt.blk {hb : Nat} {v : Value} {l : List Tm} {w : World} (h : HpAt hb v l w) : v.ownBlock ≠ some hb := by
  rcases h.2.2 with ⟨rfl, -⟩ | ⟨g, cap, cur, rfl, h1, -⟩
  · simp [Value.ownBlock]
  · simp [Value.ownBlock]
    omega
/-- A heap in a call: what it was is changed in its row alone. -/
def UpTo (hb : Nat) (v : Value) (l : List Tm) (n : Nat) (w : World) (w' : World) : Prop :=
  (∃ l', l'.Perm l ∧ HpF (key l') n ∧ HpAt hb v l' w') ∧ w.grownBy w' v.ownBlock
def UpRel (hb : Nat) (v : Value) (l : List Tm) (w : World) (i : Value) (wr : World) : Prop :=
  ∃ (j : Nat) (l' : List Tm), i = .int .i64 j ∧ j < l.length ∧ l'.Perm l ∧ UpI (key l') l.length j ∧ HpAt hb v l' wr ∧ w.grownBy wr v.ownBlock
set_option maxRecDepth 100000 in
set_option maxHeartbeats 4000000 in
theorem up_any (hb : Nat) (v : Value) (l : List Tm) (j : Nat) (w : World) (hw : HpAt hb v l w) (hj : j < l.length) (hm : l.length ≤ 1000) (hI : UpI (key l) l.length j) :
    Calls Try.prog 71 #[.iface 100 (.pointer (some ⟨hb, 0, none⟩)), .int .i64 j] w fun e w' => e = .returned (.tuple #[]) ∧ UpTo hb v l l.length w w' := by
  have HW := Lib.hid hw
  have HI := Lib.hid hI
  obtain ⟨A, c, rfl⟩ := own_slice hw.2
  obtain ⟨n, hn⟩ : ∃ n, l.length = n := ⟨_, rfl⟩
  have HN := Lib.hid hn
  rw [hn] at HI HW hm hj ⊢
  clear hw hI hn
  go_enter Try.func71, Try.ntmps71
  go_wp2_with fail
  go_loopw [1] (fun i wr => UpRel hb (.slice A n c) l w i wr) (fun i _ => (intOf i).toNat)
  case atStart => exact ⟨j, l, rfl, by rw [HN.out]; exact hj, List.Perm.refl _, by rw [HN.out]; exact HI.out, HW.out, gby_refl _ _⟩
  case round =>
    obtain ⟨k, l', rfl, hk, hper, hup, hat, hgr⟩ := hrel
    rw [HN.out] at hk hup
    have hl' : l'.length = n := by rw [hper.length_eq]; exact HN.out
    have HP := Lib.hid hper
    have HU := Lib.hid hup
    have HA := Lib.hid hat
    have HG := Lib.hid hgr
    have HL := Lib.hid hl'
    have hcell := cellsAt hat.1 0
    simp at hcell
    have mL := met_less hb A n c wr hcell
    clear hper hup hat hgr hl'
    by_cases h0 : k = 0
    · subst h0
      go_wp2_with fail
      go_end0
      exact ⟨rfl, ⟨l', HP.out, up_zero HU.out, HA.out⟩, HG.out⟩
    · obtain ⟨p, hp⟩ : ∃ p, (k - 1) / 2 = p := ⟨_, rfl⟩
      have hpi : ((k : Int) - 1) / 2 = (p : Int) := by omega
      have hpt : ((k : Int) - 1).tdiv 2 = (p : Int) := by rw [Int.tdiv_eq_ediv_of_nonneg (by omega)]; omega
      have hpk : p < k := by omega
      have hne : ((p : Int) == (k : Int)) = false := beq_eq_false_iff_ne.2 (by omega)
      have HPP := Lib.hid hp
      clear hp
      go_wp2_with fail
      refine (tless_any l' _ _ (Row.of_own Tm.cs_len HA.out.2 rfl) k p (by rw [HL.out]; exact hk) (by rw [HL.out]; omega) (by rw [HL.out]; omega)).mono ?_
      rintro e w2 ⟨rfl, hb2⟩
      obtain ⟨q, hq⟩ : ∃ q, ltT (l'[k]'(by rw [HL.out]; exact hk)) (l'[p]'(by rw [HL.out]; omega)) = q := ⟨_, rfl⟩
      rw [hq]
      have HQ := Lib.hid hq
      have HB2 := Lib.hid hb2
      clear hq hb2 mL hcell
      cases q with
      | false =>
        go_wp2_with fail
        go_end0
        have h1 := ltT_no HQ.out
        rw [← key_at, ← key_at] at h1
        exact ⟨rfl, ⟨l', HP.out, up_stop HU.out (by rw [HPP.out]; exact h1), HA.out.below HB2.out⟩, gby_bel HG.out HB2.out⟩
      | true =>
        have hA2 := HA.out.below HB2.out
        have HA2 := Lib.hid hA2
        have hcell := cellsAt hA2.1 0
        simp at hcell
        have mS := met_swap hb A n c w2 hcell
        clear hA2
        go_wp2_with fail
        refine (tswap_any (hb + 1) l' _ _ (by have h := HA2.out.2; exact h) (by rw [HL.out]; omega) p k (by rw [HL.out]; omega) (by rw [HL.out]; exact hk)).mono ?_
        rintro e w3 ⟨rfl, ho3, hg3⟩
        have HO3 := Lib.hid ho3
        have HG3 := Lib.hid hg3
        clear ho3 hg3 mS hcell
        go_wp2_with fail
        go_roundw
        case rel =>
          have hne2 := HA2.out.blk
          refine ⟨p, swpL l' p k, rfl, by rw [HN.out]; omega, (swp_perm _ _ _).trans HP.out, ?_, ⟨heap_grown' HA2.out.1 HG3.out hne2, by rw [swpL_len]; exact HO3.out⟩, (gby_bel HG.out HB2.out).trans HG3.out⟩
          rw [HN.out]
          have h1 := ltT_yes HQ.out
          rw [← key_at, ← key_at] at h1
          refine up_step HU.out (by omega) hk HPP.out h1 fun x => ?_
          exact key_swp (by rw [HL.out]; omega) (by rw [HL.out]; exact hk) x
        case measure => simp [intOf]; omega
end Go.Proofs.Ytlboehpgpbchhaa
