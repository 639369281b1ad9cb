/-
  Layer 19, plain: what committing once more, and one behind the other, makes.
-/
import Derived.Test.YtenpgkkefielfaaSinkW25
set_option linter.unusedVariables false
set_option linter.unusedSimpArgs false
namespace Go.Proofs.Ytenpgkkefielfaa

theorem comE_zero {k : Snk} {n : Int} (h : comE k n = 0) : k.right = true ∧ (n ≤ k.last ∨ k.has n = true) := by
  unfold comE at h
  split at h
  · rename_i hr
    refine ⟨hr, ?_⟩
    split at h
    · exact .inl (by assumption)
    · split at h
      · exact .inr (by assumption)
      · cases h
  · cases h
theorem comE_not {k : Snk} {n : Int} (h : comE k n ≠ 0) : comK k n = zK := by
  unfold comE at h
  unfold comK
  split
  · rename_i hr
    rw [if_pos hr] at h
    split
    · rename_i h2
      rw [if_pos h2] at h
      exact absurd rfl h
    · rename_i h2
      rw [if_neg h2] at h
      split
      · rename_i h3
        rw [if_pos h3] at h
        exact absurd rfl h
      · rfl
  · rfl
theorem com_low {k : Snk} (h : k.right = true) {m : Int} (hm : m ≤ k.last) : comE k m = 0 ∧ comK k m = k := by
  unfold comE comK
  rw [if_pos h, if_pos h, if_pos hm, if_pos hm]
  exact ⟨rfl, rfl⟩
theorem com_again {k : Snk} {n : Int} (h : comE k n = 0) : (comK k n).right = true ∧ (∀ m, m ≤ n → comE (comK k n) m = 0 ∧ comK (comK k n) m = comK k n) := by
  obtain ⟨hr, h2⟩ := comE_zero h
  have hk : (comK k n).right = true ∧ n ≤ (comK k n).last := by
    unfold comK
    rw [if_pos hr]
    by_cases hl : n ≤ k.last
    · rw [if_pos hl]; exact ⟨hr, hl⟩
    · rw [if_neg hl]
      have hh : k.has n = true := h2.resolve_left hl
      rw [if_pos hh]
      exact ⟨com_right hr hh, Int.le_refl _⟩
  exact ⟨hk.1, fun m hm => com_low hk.1 (by omega)⟩
theorem abo_again {k : Snk} (h : k.right = true) : aboE k = 0 ∧ aboK k = ⟨[], [], k.last, k.out⟩ ∧ (aboK k).right = true := by
  unfold aboE aboK
  rw [if_pos h, if_pos h]
  exact ⟨rfl, rfl, abo_right h⟩
/-- The sink behind the commits of the first j stages. -/
def stepK (k : Snk) (j : Nat) : Snk := ⟨k.op, k.st.drop j, prevS k.last k.st j, outTo k.out k.st j⟩
theorem stepK_zero (k : Snk) : stepK k 0 = k := by
  unfold stepK outTo prevS
  simp
theorem step_com {k : Snk} (h : k.right = true) {j : Nat} {x : Stg} (hx : k.st[j]? = some x) : comE k x.n = 0 ∧ comK k x.n = stepK k (j + 1) := by
  obtain ⟨h1, h2, h3⟩ := pos_split h hx
  have hl := (asc_of h j x hx).1
  have hh : k.has x.n = true := List.any_eq_true.2 ⟨x, List.mem_of_getElem? hx, by simp⟩
  unfold comE comK
  have hnl : ¬ x.n ≤ k.last := by omega
  rw [if_pos h, if_pos h, if_neg hnl, if_neg hnl, if_pos hh, if_pos hh]
  refine ⟨rfl, ?_⟩
  unfold stepK outTo
  rw [h2, h3, prevS_succ hx]
  rfl
theorem step_right {k : Snk} (h : k.right = true) {j : Nat} (hj : j ≤ k.st.length) : (stepK k j).right = true := by
  cases j with
  | zero => rw [stepK_zero]; exact h
  | succ j =>
    have hx : k.st[j]? = some k.st[j] := List.getElem?_eq_getElem (by omega)
    rw [← (step_com h hx).2]
    exact (com_again (step_com h hx).1).1
theorem step_next {k : Snk} (h : k.right = true) {j : Nat} {x : Stg} (hx : k.st[j]? = some x) : comE (stepK k j) x.n = 0 ∧ comK (stepK k j) x.n = stepK k (j + 1) ∧ (stepK k (j + 1)).out.length = (stepK k j).out.length + x.l.length := by
  have hj := (List.getElem?_eq_some_iff.1 hx).1
  have hr := step_right h (j := j) (by omega)
  have hx0 : (stepK k j).st[0]? = some x := by unfold stepK; rw [List.getElem?_drop]; exact hx
  obtain ⟨h1, h2⟩ := step_com hr hx0
  refine ⟨h1, ?_, ?_⟩
  · rw [h2]
    have e1 : prevS (stepK k j).last (stepK k j).st (0 + 1) = prevS k.last k.st (j + 1) := by rw [prevS_succ hx0, prevS_succ hx]
    have e2 : (stepK k j).st.drop (0 + 1) = k.st.drop (j + 1) := by unfold stepK; rw [List.drop_drop]
    have e3 : outTo (stepK k j).out (stepK k j).st (0 + 1) = outTo k.out k.st (j + 1) := by
      rw [outTo_succ hx0, outTo_succ hx]
      unfold stepK outTo
      simp
    show (⟨(stepK k j).op, (stepK k j).st.drop (0 + 1), prevS (stepK k j).last (stepK k j).st (0 + 1), outTo (stepK k j).out (stepK k j).st (0 + 1)⟩ : Snk) = ⟨k.op, k.st.drop (j + 1), prevS k.last k.st (j + 1), outTo k.out k.st (j + 1)⟩
    rw [e1, e2, e3]
    rfl
  · show (outTo k.out k.st (j + 1)).length = (outTo k.out k.st j).length + x.l.length
    rw [outTo_succ hx, List.length_append]
end Go.Proofs.Ytenpgkkefielfaa
