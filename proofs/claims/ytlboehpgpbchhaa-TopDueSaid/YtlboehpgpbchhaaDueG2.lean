/-
  WALKS of the law TopDue: which pane is the first that is not closed (printed by mkDueG2.py).
-/
import Derived.Test.YtlboehpgpbchhaaDueG1
set_option linter.unusedVariables false
set_option linter.unusedSimpArgs false
namespace Go.Proofs.Ytlboehpgpbchhaa
open Go.RowKit

/-- The mark's box. -/
def MBx (g : Nat) (m : Int) (W : World) : Prop := W.heap[g]? = some (.cells #[.int .i64 m] 2 (0, 0))
theorem dclosed_any (p : Pn) (g : Nat) (m : Int) (w : World) (hg : MBx g m w) : Calls Try.prog 72 #[p.val, .pointer (some ⟨g, 0, none⟩)] w fun e w' => e = .returned (.bool (!decide (p.hi ≤ m))) ∧ Below w.heap.size w w' := by
  have HC := Lib.hid (fun w => closed_any p.lo p.hi m w)
  have h1 : w.cell? ⟨g, 0, none⟩ = some (.int .i64 m) := cellsAt hg 0
  have z := blk_lt hg
  obtain ⟨lo, hi, k, n, a, b⟩ := p
  unfold Pn.val
  simp only at HC ⊢
  go_enter Try.func72, Try.ntmps72
  go_wp2_with fail
  refine (HC.out _).mono ?_
  rintro e w' ⟨rfl, hb⟩
  have HB := Lib.hid (belA (Below.refl _ _) hb)
  clear hb
  obtain ⟨q, hq⟩ : ∃ q, decide (hi ≤ m) = q := ⟨_, rfl⟩
  rw [hq]
  have HQ := Lib.hid hq
  clear hq
  cases q
  all_goals
    go_wp2_with fail
    go_ret
    exact ⟨by rw [HQ.out]; rfl, HB.out⟩
def clB (m : Int) (l : List Pn) : Bool := l.all (fun p => decide (p.hi ≤ m))
def IxRel (m : Int) (l : List Pn) (w : World) (i : Value) (wr : World) : Prop := ∃ k : Nat, k ≤ l.length ∧ i = .int .i64 k ∧ clB m (l.take k) = true ∧ Below w.heap.size w wr
/-- The first that is not closed. -/
def IxTo (m : Int) (l : List Pn) (w : World) (e : Ending) (w' : World) : Prop := ∃ k : Nat, k ≤ l.length ∧ e = .returned (.int .i64 (if k < l.length then (k : Int) else -1)) ∧ clB m (l.take k) = true ∧ (∀ x, l[k]? = some x → m < x.hi) ∧ Below w.heap.size w w'
theorem ix_succ {m : Int} {l : List Pn} {k : Nat} {x : Pn} (h : l[k]? = some x) : clB m (l.take (k + 1)) = (clB m (l.take k) && decide (x.hi ≤ m)) := by
  unfold clB
  rw [List.take_add_one, h]
  simp
set_option maxRecDepth 100000 in
set_option maxHeartbeats 2000000 in
theorem dindex_any (li : List Pn) (v : Value) (g : Nat) (m : Int) (w : World) (hv : Row Pn.cs 6 w v li) (hl : li.length ≤ 2000) (hg : MBx g m w) :
    Calls Try.prog 66 #[v, .func (.func 72) #[] #[.pointer (some ⟨g, 0, none⟩)]] w (IxTo m li w) := by
  have HV := Lib.hid hv
  have HG := Lib.hid hg
  obtain ⟨A, c, rfl, hc, hA⟩ := hv
  have HA := Lib.hid hA
  clear hA hg
  obtain ⟨n, hn⟩ : ∃ n, li.length = n := ⟨_, rfl⟩
  rw [hn] at hl hc HV ⊢
  have Hn := Lib.hid hn
  clear hn
  go_enter Try.func66, Try.ntmps66
  go_wp2_with fail
  go_loopw [8] (fun i wr => IxRel m li w i wr) (fun i _ => n - (intOf i).toNat)
  case atStart => exact ⟨0, Nat.zero_le _, rfl, rfl, Below.refl _ _⟩
  case round =>
    obtain ⟨k, hk, rfl, hall, hbel⟩ := hrel
    rw [Hn.out] at hk
    have HB := Lib.hid hbel
    have HL := Lib.hid hall
    clear hbel hall
    by_cases hlt : k < n
    · obtain ⟨x, hi⟩ : ∃ x, li[k]? = some x := ⟨_, List.getElem?_eq_getElem (by rw [Hn.out]; exact hlt)⟩
      obtain ⟨b, o, rfl, hb, hX⟩ := HA.out (by rw [Hn.out]; omega)
      have c0 := (HB.out.cell (p := ⟨b, o + k * 6 + 0, none⟩) hb).trans (hX k x 0 _ hi rfl)
      have c1 := (HB.out.cell (p := ⟨b, o + k * 6 + 1, none⟩) hb).trans (hX k x 1 _ hi rfl)
      have c2 := (HB.out.cell (p := ⟨b, o + k * 6 + 2, none⟩) hb).trans (hX k x 2 _ hi rfl)
      have c3 := (HB.out.cell (p := ⟨b, o + k * 6 + 3, none⟩) hb).trans (hX k x 3 _ hi rfl)
      have c4 := (HB.out.cell (p := ⟨b, o + k * 6 + 4, none⟩) hb).trans (hX k x 4 _ hi rfl)
      have c5 := (HB.out.cell (p := ⟨b, o + k * 6 + 5, none⟩) hb).trans (hX k x 5 _ hi rfl)
      clear hX
      obtain ⟨q, hq⟩ : ∃ q, decide (x.hi ≤ m) = q := ⟨_, rfl⟩
      have HP := Lib.hid (fun W h => dclosed_any x g m W h)
      rw [hq] at HP
      have HX := Lib.hid hq
      have HI := Lib.hid hi
      obtain ⟨lo, hx, ks, pn, pa, pb⟩ := x
      unfold Pn.val at HP
      simp only [Nat.add_zero] at c0 c1 c2 c3 c4 c5 HP
      clear hq hi
      go_wp2_with fail
      refine (HP.out _ (heap_below HG.out HB.out)).mono ?_
      rintro e w2 ⟨rfl, hb2⟩
      have HB2 := Lib.hid (bThen HB.out hb2)
      clear hb2 HB c0 c1 c2 c3 c4 c5
      cases q with
      | true =>
        go_wp2_with fail
        go_roundw
        case rel => exact ⟨k + 1, by rw [Hn.out]; omega, by go_num, by rw [ix_succ HI.out, HL.out, HX.out]; rfl, HB2.out⟩
        case measure => simp [intOf]; omega
      | false =>
        go_wp2_with fail
        go_ret
        exact ⟨k, by rw [Hn.out]; omega, by rw [Hn.out, if_pos hlt]; rfl, HL.out, fun y hy => by rw [HI.out] at hy; injection hy with hy; subst hy; have := of_decide_eq_false HX.out; simp only at this ⊢; omega, HB2.out⟩
    · have hkn : k = n := by omega
      subst hkn
      go_wp2_with fail
      go_ret
      exact ⟨k, by rw [Hn.out]; omega, by rw [Hn.out, if_neg (Nat.lt_irrefl _)]; rfl, HL.out, (fun y hy => by rw [List.getElem?_eq_none (by rw [Hn.out]; omega)] at hy; cases hy), HB.out⟩
end Go.Proofs.Ytlboehpgpbchhaa
