/-
  WALKS: slices.Delete of one element, at a row of one's own of api.Cell.
-/
import Derived.Test.YtlboehpgpbchhaaGreatInsCell
set_option linter.unusedVariables false
set_option linter.unusedSimpArgs false
namespace Go.Proofs.YtlboehpgpbchhaaGreat
open Go.RowKit

set_option maxHeartbeats 4000000 in
set_option maxRecDepth 100000 in
theorem lcdelrow (g m c i : Nat) (cur : Array Value) (w : World) (hi : i ≤ m) (hroom : m + 1 ≤ c) (hc63 : c ≤ 9223372036854775807)
    (hg : w.heap[g]? = some (.cells cur 64 (0, 0))) (hcs : cur.size = c * 2) (h1c : ∀ u ∈ cur.toList.take ((m + 1) * 2), u.oneCell' = true) :
    Calls Tryz.prog 126 #[.slice (some ⟨g, 0, none⟩) (m + 1) c, .int .i64 i, .int .i64 ((i : Int) + 1)] w fun e w' =>
      ∃ R, e = .returned (.slice (some ⟨g, 0, none⟩) m c) ∧ R.size = c * 2 ∧ R.toList.take (m * 2) = (cur.toList.take ((m + 1) * 2)).take (i * 2) ++ (cur.toList.take ((m + 1) * 2)).drop ((i + 1) * 2) ∧ w'.heap[g]? = some (.cells R 64 (0, 0)) ∧ w.grownBy w' (some g) := by
  obtain ⟨i0, hi0, hz0, hz1, hz2⟩ := info_parts lcinfo
  have lc : cur.toList.length = c * 2 := by simpa using hcs
  have hmc : (m + 1) * 2 ≤ c * 2 := Nat.mul_le_mul_right _ hroom
  have him : i * 2 ≤ m * 2 := Nat.mul_le_mul_right _ hi
  have lt : ((cur.toList.take ((m + 1) * 2)).drop ((i + 1) * 2)).length = (m - i) * 2 := by rw [List.length_drop, List.length_take, lc, Nat.sub_mul]; omega
  obtain ⟨R1, hR1⟩ : ∃ R1 : Array Value, R1 = (cur.toList.take (i * 2) ++ (cur.toList.take ((m + 1) * 2)).drop ((i + 1) * 2) ++ cur.toList.drop (i * 2 + ((cur.toList.take ((m + 1) * 2)).drop ((i + 1) * 2)).length)).toArray := ⟨_, rfl⟩
  have hfit1 : i * 2 + ((cur.toList.take ((m + 1) * 2)).drop ((i + 1) * 2)).length ≤ cur.toList.length := by rw [lt, lc, Nat.sub_mul]; omega
  have hRs1 : R1.toList.length = c * 2 := by rw [hR1, ← lc]; exact splice_len _ _ _ hfit1
  obtain ⟨A, hA⟩ : ∃ A : Addr, (if c = i + 1 then (⟨g, 0, none⟩ : Addr) else ⟨g, (i + 1) * 2, none⟩) = A := ⟨_, rfl⟩
  have hsrc : ∀ j u, ((cur.toList.take ((m + 1) * 2)).drop ((i + 1) * 2))[j]? = some u → w.drew.cell? (A.add j) = some u := fun j u hj => by
    by_cases hci : c = i + 1
    · have h0 := (List.getElem?_eq_some_iff.1 hj).1
      rw [lt, show m - i = 0 by omega] at h0
      omega
    · rw [← hA, if_neg hci, add_at]
      rw [List.getElem?_drop, List.getElem?_take] at hj
      split at hj
      · exact (cellsAt (W := w.drew) hg _).trans (by simpa using hj)
      · cases hj
  have hap : ∀ ty sc, (Builtin.append_ #[58, 58] ty #[.slice (some ⟨g, 0, none⟩) i c, .slice (some A) (m - i) sc]).run Tryz.prog w.drew = .ok (.slice (some ⟨g, 0, none⟩) m c) (w.drew.setRow g R1) := fun ty sc => by
    have h := run_append_room (P := Tryz.prog) w.drew 58 ty 64 i0 Tryz.underlying58 hi0 g i c cur hg A (m - i) sc _ (by rw [lt, hz1]) hsrc (fun v hv => h1c v (List.mem_of_mem_drop hv)) (by omega) (by rw [hz1]; simpa using hfit1)
    rw [show i + (m - i) = m by omega, hz1, ← hR1] at h
    exact h
  obtain ⟨W1, hW1⟩ : ∃ W1, W1 = w.drew.setRow g R1 := ⟨_, rfl⟩
  have hN1 : W1.heap[g]? = some (.cells R1 64 (0, 0)) := by rw [hW1]; exact setRow_heap _ _ cur _ _ _ hg
  have hd : w.grownBy w.drew (some g) := ⟨rfl, rfl, rfl, Nat.le_refl _, fun _ _ _ => rfl⟩
  have hG1 : w.grownBy W1 (some g) := by rw [hW1]; exact grown_trans hd (grown_setRow w.drew g _)
  rw [← hW1] at hap
  obtain ⟨R2, hR2⟩ : ∃ R2 : Array Value, R2 = (R1.toList.take (m * 2) ++ (Builtin.zeroCells (Value.agg #[.string ⟨#[]⟩, .string ⟨#[]⟩]).cells 1).toList ++ R1.toList.drop (m * 2 + (Builtin.zeroCells (Value.agg #[.string ⟨#[]⟩, .string ⟨#[]⟩]).cells 1).toList.length)).toArray := ⟨_, rfl⟩
  have hfit2 : m * 2 + (Builtin.zeroCells (Value.agg #[.string ⟨#[]⟩, .string ⟨#[]⟩]).cells 1).toList.length ≤ R1.toList.length := by rw [lczlen, hRs1]; omega
  have hcl : ∀ ty cc, (Builtin.clear_ #[58] ty #[.slice (some ⟨g, m * 2, none⟩) 1 cc]).run Tryz.prog W1 = .ok (.tuple #[]) (W1.setRow g R2) := fun ty cc => by
    rw [hR2]
    exact run_clear_rowK W1 58 ty 64 i0 _ g (m * 2) 1 cc R1 64 Tryz.underlying58 hi0 hz0 (by omega) hN1 (by simpa using hfit2) (lczone 1)
  obtain ⟨W2, hW2⟩ : ∃ W2, W2 = W1.setRow g R2 := ⟨_, rfl⟩
  have hN2 : W2.heap[g]? = some (.cells R2 64 (0, 0)) := by rw [hW2]; exact setRow_heap _ _ R1 _ _ _ hN1
  have hG2 : w.grownBy W2 (some g) := by rw [hW2]; exact grown_trans hG1 (grown_setRow W1 g _)
  rw [← hW2] at hcl
  have hRs2 : R2.size = c * 2 := by
    have : R2.toList.length = R1.toList.length := by rw [hR2]; exact splice_len _ _ _ hfit2
    rw [hRs1] at this
    simpa using this
  have hRf : R2.toList.take (m * 2) = (cur.toList.take ((m + 1) * 2)).take (i * 2) ++ (cur.toList.take ((m + 1) * 2)).drop ((i + 1) * 2) := by
    have := del_list cur.toList (Builtin.zeroCells (Value.agg #[.string ⟨#[]⟩, .string ⟨#[]⟩]).cells 1).toList (i * 2) ((i + 1) * 2) ((m + 1) * 2) 2 (by omega) (by omega) (by rw [lc]; exact hmc) (by rw [lczlen])
    rw [show (m + 1) * 2 - 2 = m * 2 by omega] at this
    rw [hR2, hR1]
    exact this
  have FIN := Lib.hid (And.intro hRs2 (And.intro hRf (And.intro hN2 hG2)))
  have HAp := Lib.hid hap
  have HCl := Lib.hid hcl
  have HA := Lib.hid hA
  clear hap hcl hW1 hW2 hN1 hN2 hG1 hG2 hd hRf hRs2 hR1 hR2 hRs1 hfit1 hfit2 hsrc hA lt lc hg h1c hcs hi0 hz0 hz1 hz2 hmc him
  have hw1 : IntKind.i64.wrap ((i : Int) + 1) = (i : Int) + 1 := by rw [IntKind.wrap_i64]; omega
  have htn : ((i : Int) + 1).toNat = i + 1 := by omega
  have hb1 : (0 : Int) ≤ (i : Int) + 1 := by omega
  have hb5 : ¬ ((i : Int) = (i : Int) + 1) := by omega
  have hcm : ¬ (c = m) := by omega
  have hm1 : m + 1 - m = 1 := by omega
  have hic : i ≤ c := by omega
  have hii : (i : Int) ≤ (i : Int) + 1 := by omega
  by_cases hci : c = i + 1
  · subst hci
    obtain rfl : m = i := by omega
    have HA2 := HA.out
    rw [if_pos rfl] at HA2
    subst HA2
    have q1 := HAp.out
    simp only [Nat.sub_self] at q1
    have Q1 := Lib.hid q1
    clear q1 HAp
    go_enter Tryz.func126, Tryz.ntmps126
    go_wp2_with fail
    go_region_law (refine step_append_run rfl _ _ 58 58 rfl _ _ rfl rfl (Q1.out _ _) ?_)
    have q2 := HCl.out
    go_wp2_with fail
    go_ret
    exact ⟨_, rfl, FIN.out⟩
  · have HA2 := HA.out
    rw [if_neg hci] at HA2
    subst HA2
    go_enter Tryz.func126, Tryz.ntmps126
    go_wp2_with fail
    go_region_law (refine step_append_run rfl _ _ 58 58 rfl _ _ rfl rfl (HAp.out _ _) ?_)
    have q2 := HCl.out
    go_wp2_with fail
    go_ret
    exact ⟨_, rfl, FIN.out⟩
/-- What Delete of one element makes of a row of one's own. -/
def lcDelTo (base m i : Nat) (v : Value) (xs : List Value) (w : World) (e : Ending) (w' : World) : Prop :=
  ∃ v', e = .returned v' ∧ w'.ownsRow base 64 2 v' m (xs.take (i * 2) ++ xs.drop ((i + 1) * 2)) ∧ w.grownBy w' v.ownBlock
theorem lcdelete (base m i : Nat) (v : Value) (xs : List Value) (w : World) (hown : w.ownsRow base 64 2 v (m + 1) xs) (hi : i ≤ m) (h1 : ∀ u ∈ xs, u.oneCell' = true) :
    Calls Tryz.prog 126 #[v, .int .i64 i, .int .i64 ((i : Int) + 1)] w (lcDelTo base m i v xs w) := by
  rcases hown.2 with ⟨-, h⟩ | ⟨g, c, cur, rfl, hb, hg, hnc, hcm, hcs, hx⟩
  · omega
  · refine (lcdelrow g m c i cur w hi hnc (by unfold maxLen at hcm; exact hcm) hg hcs (by rw [hx]; exact h1)).mono ?_
    rintro e w' ⟨R, rfl, hR1, hR2, hR3, hgr⟩
    rw [hx] at hR2
    have hl := hown.1
    refine ⟨_, rfl, ⟨by simp only [List.length_append, List.length_take, List.length_drop, hl]; omega, .inr ⟨g, c, R, rfl, hb, hR3, by omega, hcm, hR1, hR2⟩⟩, hgr⟩
end Go.Proofs.YtlboehpgpbchhaaGreat
