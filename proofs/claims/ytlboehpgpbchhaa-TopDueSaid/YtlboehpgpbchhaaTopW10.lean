/-
  WALKS of the top laws: where a pane stands.
-/
import Derived.Test.YtlboehpgpbchhaaTopW9
import Derived.BigQuiet
import Derived.StillTailTactics
import Derived.Deep.RegionHeld3
import Derived.Deep.CutRange
set_option linter.unusedVariables false
set_option linter.unusedSimpArgs false
namespace Go.Proofs.Ytlboehpgpbchhaa
open Go.RowKit

/-- Where a pane stands: some place in the row. -/
def PlTo (n : Nat) (w : World) (e : Ending) (w' : World) : Prop := (∃ (i : Nat) (b : Bool), e = .returned (.tuple #[.int .i64 i, .bool b]) ∧ i ≤ n ∧ (b = true → i < n)) ∧ Below w.heap.size w w'
def PlRel (n : Nat) (x : Pn) (w : World) (vl vh : Value) (wr : World) : Prop := ∃ lo hi : Nat, lo ≤ hi ∧ hi ≤ n ∧ vl = .int .i64 lo ∧ vh = .int .i64 hi ∧ wr.heap[w.heap.size]? = some (.cells x.cs.toArray 59 (0, 0)) ∧ Below w.heap.size w wr
set_option maxRecDepth 100000 in
set_option maxHeartbeats 2000000 in
theorem place_any (l : List Pn) (x : Pn) (v : Value) (w : World) (hv : Row Pn.cs 6 w v l) (hm : l.length ≤ 2000) :
    Calls Try.prog 116 #[v, x.val, .func (.func 65) #[] #[]] w (PlTo l.length w) := by
  have HV := Lib.hid hv
  have HC := Lib.hid (fun p q w => cmpp_any p q w)
  obtain ⟨A, c, rfl, hc, -⟩ := hv
  obtain ⟨n, hn⟩ : ∃ n, l.length = n := ⟨_, rfl⟩
  have HN := Lib.hid hn
  rw [hn] at hm hc HV ⊢
  clear hn
  obtain ⟨lo, hi, ks, pn, pa, pb⟩ := x
  unfold Pn.val
  simp only
  go_enter Try.func116, Try.ntmps116
  go_wp2_with fail
  go_loopw [8, 9] (fun vl vh wr => PlRel n ⟨lo, hi, ks, pn, pa, pb⟩ w vl vh wr) (fun vl vh _ => (intOf vh).toNat - (intOf vl).toNat)
  case atStart => exact ⟨0, n, Nat.zero_le _, Nat.le_refl _, rfl, rfl, heap_at _ _ _ rfl, bel_alloc (Below.refl _ _) _⟩
  case round =>
    obtain ⟨i, j, hij, hjn, rfl, rfl, hp, hbel⟩ := hrel
    have Bp := Lib.hid hp
    have HB := Lib.hid hbel
    clear hp hbel
    have zp := blk_lt Bp.out
    have xp0 := cellsAt Bp.out 0
    have xp1 := cellsAt Bp.out 1
    have xp2 := cellsAt Bp.out 2
    have xp3 := cellsAt Bp.out 3
    have xp4 := cellsAt Bp.out 4
    have xp5 := cellsAt Bp.out 5
    simp [Pn.cs] at xp0 xp1 xp2 xp3 xp4 xp5
    by_cases hlt : i < j
    · have hI : (i : Int) < (j : Int) := by omega
      obtain ⟨m, hmid, hm1, hm2⟩ : ∃ m : Nat, ((i : Int) + (j : Int)).tdiv 2 = (m : Int) ∧ i ≤ m ∧ m < j := by
        refine ⟨(i + j) / 2, ?_, by omega, by omega⟩
        rw [Int.tdiv_eq_ediv_of_nonneg (by omega)]
        omega
      obtain ⟨y, hy⟩ : ∃ y, l[m]? = some y := ⟨_, List.getElem?_eq_getElem (by rw [HN.out]; omega)⟩
      have hrow := HV.out.below HB.out
      obtain ⟨b, o, c', hv', -, hb, hX⟩ := hrow.at_ hy
      rw [HN.out] at hv'
      injection hv' with e1 e2 e3
      subst e1 e3
      have r0 := hX 0 _ rfl
      have r1 := hX 1 _ rfl
      have r2 := hX 2 _ rfl
      have r3 := hX 3 _ rfl
      have r4 := hX 4 _ rfl
      have r5 := hX 5 _ rfl
      simp only [Nat.add_zero] at r0 r1 r2 r3 r4 r5
      have HQ := Lib.hid (fun W => HC.out y ⟨lo, hi, ks, pn, pa, pb⟩ W)
      obtain ⟨cv, hcv⟩ : ∃ q, cmpP y ⟨lo, hi, ks, pn, pa, pb⟩ = q := ⟨_, rfl⟩
      rw [hcv] at HQ
      clear hX hrow hcv hy
      obtain ⟨lo2, hi2, ks2, pn2, pa2, pb2⟩ := y
      unfold Pn.val at HQ
      simp only at r0 r1 r2 r3 r4 r5 HQ
      have hmn : (m : Int) < (n : Int) := by omega
      have hmn2 : m < n := by omega
      go_upto_region 4 with fail
      go_still_tail 6, (by kernel_rfl)
      try refine wpStill_nil ?_
      change wpList _ _ _ _ _ wr.drew
      have HD := Lib.hid (show Below w.heap.size w wr.drew from Below.drew HB.out)
      have Bq := Lib.hid (show wr.drew.heap[w.heap.size]? = some (.cells (Pn.cs ⟨lo, hi, ks, pn, pa, pb⟩).toArray 59 (0, 0)) from Bp.out)
      clear zp xp0 xp1 xp2 xp3 xp4 xp5 r0 r1 r2 r3 r4 r5 hb
      generalize wr.drew = W3 at HD Bq
      go_wp2_with fail
      refine (HQ.out _).mono ?_
      rintro e w4 ⟨rfl, hb4⟩
      have BF := Lib.hid (bThen HD.out hb4)
      have BE := Lib.hid (heap_below Bq.out hb4)
      clear hb4
      by_cases hcv : cv < 0
      · have hd : decide (cv < 0) = true := decide_eq_true hcv
        go_wp2_with fail
        go_roundw
        case rel => exact ⟨m + 1, j, by omega, by omega, by go_num, rfl, BE.out, BF.out⟩
        case measure => simp [intOf]; omega
      · have hd : decide (cv < 0) = false := decide_eq_false hcv
        go_wp2_with fail
        go_roundw
        case rel => exact ⟨i, m, by omega, by omega, rfl, rfl, BE.out, BF.out⟩
        case measure => simp [intOf]; omega
    · obtain rfl : i = j := by omega
      by_cases hin : i < n
      rotate_left
      · obtain rfl : i = n := by omega
        go_wp2_with fail
        go_quiet (fail)
        go_wp2_with fail
        go_ret2
        exact ⟨⟨i, false, rfl, Nat.le_refl _, by simp⟩, bDrewN HB.out⟩
      obtain ⟨y, hy⟩ : ∃ y, l[i]? = some y := ⟨_, List.getElem?_eq_getElem (by rw [HN.out]; omega)⟩
      have hrow := HV.out.below HB.out
      obtain ⟨b, o, c', hv', -, hb, hX⟩ := hrow.at_ hy
      rw [HN.out] at hv'
      injection hv' with e1 e2 e3
      subst e1 e3
      have r0 := hX 0 _ rfl
      have r1 := hX 1 _ rfl
      have r2 := hX 2 _ rfl
      have r3 := hX 3 _ rfl
      have r4 := hX 4 _ rfl
      have r5 := hX 5 _ rfl
      simp only [Nat.add_zero] at r0 r1 r2 r3 r4 r5
      have HQ := Lib.hid (fun W => HC.out y ⟨lo, hi, ks, pn, pa, pb⟩ W)
      obtain ⟨cv, hcv⟩ : ∃ q, cmpP y ⟨lo, hi, ks, pn, pa, pb⟩ = q := ⟨_, rfl⟩
      rw [hcv] at HQ
      clear hX hrow hcv hy
      obtain ⟨lo2, hi2, ks2, pn2, pa2, pb2⟩ := y
      unfold Pn.val at HQ
      simp only at r0 r1 r2 r3 r4 r5 HQ
      have hmn : (i : Int) < (n : Int) := by omega
      have hmd : decide ((i : Int) < (n : Int)) = true := decide_eq_true hmn
      have hS : Below wr.heap.size wr wr ∧ wr.cell? ⟨w.heap.size, 0, none⟩ = some (.int .i64 lo) ∧ wr.cell? ⟨w.heap.size, 1, none⟩ = some (.int .i64 hi) ∧ wr.cell? ⟨w.heap.size, 2, none⟩ = some (.string ks) ∧ wr.cell? ⟨w.heap.size, 3, none⟩ = some (.int .i64 pn) ∧ wr.cell? ⟨w.heap.size, 4, none⟩ = some (.int .i64 pa) ∧ wr.cell? ⟨w.heap.size, 5, none⟩ = some (.int .i64 pb) ∧ wr.cell? ⟨b, o + i * 6, none⟩ = some (.int .i64 lo2) ∧ wr.cell? ⟨b, o + i * 6 + 1, none⟩ = some (.int .i64 hi2) ∧ wr.cell? ⟨b, o + i * 6 + 2, none⟩ = some (.string ks2) ∧ wr.cell? ⟨b, o + i * 6 + 3, none⟩ = some (.int .i64 pn2) ∧ wr.cell? ⟨b, o + i * 6 + 4, none⟩ = some (.int .i64 pa2) ∧ wr.cell? ⟨b, o + i * 6 + 5, none⟩ = some (.int .i64 pb2) := ⟨Below.refl _ _, xp0, xp1, xp2, xp3, xp4, xp5, r0, r1, r2, r3, r4, r5⟩
      go_upto_region 7 with fail
      clear Bp
      go_region_held3 (fun w' => Below wr.heap.size wr w' ∧ w'.cell? ⟨w.heap.size, 0, none⟩ = some (.int .i64 lo) ∧ w'.cell? ⟨w.heap.size, 1, none⟩ = some (.int .i64 hi) ∧ w'.cell? ⟨w.heap.size, 2, none⟩ = some (.string ks) ∧ w'.cell? ⟨w.heap.size, 3, none⟩ = some (.int .i64 pn) ∧ w'.cell? ⟨w.heap.size, 4, none⟩ = some (.int .i64 pa) ∧ w'.cell? ⟨w.heap.size, 5, none⟩ = some (.int .i64 pb) ∧ w'.cell? ⟨b, o + i * 6, none⟩ = some (.int .i64 lo2) ∧ w'.cell? ⟨b, o + i * 6 + 1, none⟩ = some (.int .i64 hi2) ∧ w'.cell? ⟨b, o + i * 6 + 2, none⟩ = some (.string ks2) ∧ w'.cell? ⟨b, o + i * 6 + 3, none⟩ = some (.int .i64 pn2) ∧ w'.cell? ⟨b, o + i * 6 + 4, none⟩ = some (.int .i64 pa2) ∧ w'.cell? ⟨b, o + i * 6 + 5, none⟩ = some (.int .i64 pb2)) (first | assumption | exact keep12 (by assumption) | exact keep12b (by assumption) zp hb (by assumption)) (first | (go_at_call 65; refine (HQ.out _).mono ?_; rintro e wx ⟨rfl, hbx⟩))
      go_wp2_with fail
      go_ret2
      exact ⟨⟨i, _, rfl, by omega, fun _ => hin⟩, bThen HB.out (And.left (by assumption))⟩
end Go.Proofs.Ytlboehpgpbchhaa
