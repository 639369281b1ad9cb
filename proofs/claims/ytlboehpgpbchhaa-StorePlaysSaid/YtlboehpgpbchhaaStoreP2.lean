/-
  PLAIN: what a batch comes to.
-/
import Derived.Test.YtlboehpgpbchhaaStoreW15
set_option linter.unusedVariables false
set_option linter.unusedSimpArgs false
namespace Go.Proofs.Ytlboehpgpbchhaa
open Go.RowKit

theorem may_all {l : List Cl} : allC l = true ↔ ∀ x ∈ l, mayC x = true := allR_iff l mayC
/-- What a batch comes to: the power goes; all count; no room. -/
def BRes (c f l : List Cl) (i : Nat) (left : Int) (r : St × Int) : Prop :=
  (∃ j : Nat, j ≤ l.length ∧ ((i + j : Nat) : Int) = left ∧ r = (⟨c, f ++ l.take j, true⟩, 170) ∧ f.length + j ≤ 64) ∨
    (r = (⟨countL c (f ++ l), [], false⟩, 0) ∧ (countL c (f ++ l)).length ≤ 64) ∨ r = (zS, 3)
theorem goB_res {c : List Cl} (hg : Good c) (hc : c.length ≤ 64) : ∀ (l f : List Cl) (i : Nat) (left : Int), f.length ≤ 64 → (∀ x ∈ f, mayC x = true) → (∀ x ∈ l, mayC x = true) → BRes c f l i left (goB ⟨c, f, false⟩ l i left)
  | [], f, i, left, hf, hm, _ => by
    have hr : rightB c f = true := right_iff.2 (right_of hg hc hf hm)
    unfold goB
    by_cases hL : (i : Int) = left
    · rw [if_pos hL]
      exact .inl ⟨0, Nat.le_refl _, by simpa using hL, by simp, by omega⟩
    · rw [if_neg hL, commit_err]
      right
      unfold commitS
      simp only
      rw [if_pos hr, if_neg (by simp)]
      by_cases h : 64 < (countL c f).length
      · rw [if_pos h]; exact .inr rfl
      · rw [if_neg h]; exact .inl ⟨by simp, by simp; omega⟩
  | x :: l, f, i, left, hf, hm, hl => by
    have hr : rightB c f = true := right_iff.2 (right_of hg hc hf hm)
    have hx := hl x (by simp)
    unfold goB
    by_cases hL : (i : Int) = left
    · rw [if_pos hL]
      exact .inl ⟨0, Nat.zero_le _, by simpa using hL, by simp, by omega⟩
    · rw [if_neg hL]
      have hw : writeS ⟨c, f, false⟩ x = if 64 ≤ f.length then (zS, 3) else (⟨c, f ++ [x], false⟩, 0) := by
        unfold writeS
        simp only
        rw [if_pos (by rw [hr, hx]; rfl), if_neg (by simp)]
      by_cases h : 64 ≤ f.length
      · rw [if_pos h] at hw
        rw [hw, if_neg (by decide)]
        exact .inr (.inr rfl)
      · rw [if_neg h] at hw
        rw [hw, if_pos rfl]
        have ih := goB_res hg hc l (f ++ [x]) (i + 1) left (by simp; omega) (fun y hy => by
          rcases List.mem_append.1 hy with h | h
          · exact hm y h
          · simp at h; subst h; exact hx) (fun y hy => hl y (by simp [hy]))
        rcases ih with ⟨j, h1, h2, h3, h4⟩ | ⟨h1, h2⟩ | h1
        · refine .inl ⟨j + 1, by simpa using h1, by rw [← h2]; congr 1; omega, ?_, by simp at h4; omega⟩
          rw [h3]
          simp
        · refine .inr (.inl ⟨?_, ?_⟩)
          · rw [h1]; simp
          · simpa using h2
        · exact .inr (.inr h1)
/-- What a batch makes of cells that count, none being fresh. -/
theorem batch_res {c l : List Cl} {left : Int} (h : rightB c [] = true) :
    (∃ j : Nat, j ≤ l.length ∧ ((j : Nat) : Int) = left ∧ batchS ⟨c, [], false⟩ l left = (⟨c, l.take j, true⟩, 170) ∧ rightB c (l.take j) = true) ∨
      (batchS ⟨c, [], false⟩ l left = (⟨countL c l, [], false⟩, 0) ∧ rightB (countL c l) [] = true) ∨ batchS ⟨c, [], false⟩ l left = (zS, 1) ∨ batchS ⟨c, [], false⟩ l left = (zS, 3) := by
  have hr := right_iff.1 h
  unfold batchS
  simp only
  cases hm : allC l with
  | false =>
    rw [if_neg (by simp)]
    exact .inr (.inr (.inl rfl))
  | true =>
    rw [if_pos (by rw [h]; rfl), if_neg (by simp)]
    have hl := may_all.1 hm
    rcases goB_res hr.good hr.len l [] 0 left (by simp) (by simp) hl with ⟨j, h1, h2, h3, h4⟩ | ⟨h1, h2⟩ | h1
    · refine .inl ⟨j, h1, by simpa using h2, by simpa using h3, right_iff.2 (right_of hr.good hr.len (by simp; omega) (fun y hy => hl y (List.mem_of_mem_take hy)))⟩
    · refine .inr (.inl ⟨by simpa using h1, right_iff.2 (right_of (hr.good.count hl) (by simpa using h2) (by simp) (by simp))⟩)
    · exact .inr (.inr (.inr h1))
theorem read_in {l : List Cl} {x : Cl} (h : rightB l [] = true) (hx : x ∈ l) : readS ⟨l, [], false⟩ x.n = (x.b, 0) := by
  unfold readS
  simp only
  rw [if_pos h, if_neg (by simp)]
  have hs := (right_iff.1 h).rise
  have hg : getS l x.n = some x.b := by
    unfold getS
    cases hf : l.find? (fun c => eqB c.n x.n) with
    | none =>
      rw [List.find?_eq_none] at hf
      exact absurd (eqB_refl x.n) (hf x hx)
    | some c =>
      have h1 := eqB_iff.1 (List.find?_some (p := fun c : Cl => eqB c.n x.n) hf)
      have h2 := List.mem_of_find?_eq_some hf
      obtain ⟨i, hi⟩ := List.getElem?_of_mem hx
      obtain ⟨j, hj⟩ := List.getElem?_of_mem h2
      have ha := asc_of hs
      rcases Nat.lt_trichotomy i j with h3 | h3 | h3
      · have := ltS_ne (ha i j _ _ h3 hi hj); exact absurd h1.symm this
      · subst h3; rw [hi] at hj; injection hj with hj; subst hj; rfl
      · have := ltS_ne (ha j i _ _ h3 hj hi); exact absurd h1 this
  rw [hg]
end Go.Proofs.Ytlboehpgpbchhaa
