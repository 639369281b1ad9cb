/-
  PLAIN: inputs that are set one behind the other; what they tell.
-/
import Derived.Test.YtdanfeldbdooeaaMarkP2
import Derived.Test.YtdanfeldbdooeaaMarkW3
set_option linter.unusedVariables false
set_option linter.unusedSimpArgs false
namespace Go.Proofs.Ytdanfeldbdooeaa
open Go.RowKit

/-- The input that the law makes of the i-th. -/
def feI (k : Nat) (t : Int) (i : Nat) : Inp := if i = k then ⟨clampT t, false⟩ else if i % 2 = 0 then ⟨1099511627776, false⟩ else ⟨0, true⟩
def feL (n k : Nat) (t : Int) (j : Nat) : List Inp := (List.range n).map (fun i => if i < j then feI k t i else inZ)
theorem feL_len (n k : Nat) (t : Int) (j : Nat) : (feL n k t j).length = n := by unfold feL; simp
theorem feL_get {n k : Nat} {t : Int} {j i : Nat} (hi : i < n) : (feL n k t j)[i]? = some (if i < j then feI k t i else inZ) := by
  unfold feL
  rw [List.getElem?_map, List.getElem?_range hi]
  rfl
theorem feI_time (k : Nat) (t : Int) (i : Nat) : timeB (feI k t i).mark = true := by
  unfold feI
  split
  · exact clamp_time t
  · split <;> decide
theorem feL_right (n k : Nat) (t : Int) (j : Nat) (h1 : 1 ≤ n) (h8 : n ≤ 8) : rightM (feL n k t j) [] 0 = true := by
  refine right_mk (by rw [feL_len]; exact h1) (by rw [feL_len]; exact h8) (by simp) (by decide) rfl (inputs_of fun x hx => ?_)
  obtain ⟨i, hi⟩ := List.mem_iff_getElem?.1 hx
  have hlt := (List.getElem?_eq_some_iff.1 hi).1
  rw [feL_len] at hlt
  rw [feL_get hlt] at hi
  injection hi with hi
  rw [← hi]
  split
  · exact feI_time k t i
  · rfl
theorem feL_set {n k : Nat} {t : Int} {j : Nat} (hj : j < n) : (feL n k t j).set j (feI k t j) = feL n k t (j + 1) := by
  refine List.ext_getElem? fun i => ?_
  by_cases hi : i < n
  · rw [feL_get hi]
    by_cases hij : j = i
    · subst hij
      rw [List.getElem?_set_self (by rw [feL_len]; exact hj), if_pos (by omega)]
    · rw [List.getElem?_set_ne hij, feL_get hi]
      by_cases h : i < j
      · rw [if_pos h, if_pos (by omega)]
      · rw [if_neg h, if_neg (by omega)]
  · rw [List.getElem?_eq_none (by rw [List.length_set, feL_len]; omega), List.getElem?_eq_none (by rw [feL_len]; omega)]
theorem feL_at {n k : Nat} {t : Int} {j : Nat} (hj : j < n) : (feL n k t j)[j]! = inZ := by
  have := feL_get (k := k) (t := t) (j := j) hj
  rw [if_neg (by omega)] at this
  exact inAt_get this
theorem feL_zero (n k : Nat) (t : Int) : feL n k t 0 = List.replicate n inZ := by
  unfold feL
  refine List.ext_getElem? fun i => ?_
  by_cases hi : i < n
  · rw [List.getElem?_map, List.getElem?_range hi, List.getElem?_replicate, if_pos hi]; rfl
  · rw [List.getElem?_eq_none (by simp; omega), List.getElem?_eq_none (by simp; omega)]
theorem inM_at {n k : Nat} {t : Int} {j : Nat} (h1 : 1 ≤ n) (h8 : n ≤ 8) (hj : j < n) : inM (feL n k t j) [] 0 (j : Int) = true := by
  unfold inM
  rw [feL_right n k t j h1 h8, feL_len]
  simp
  exact hj
/-- The three ways of a step. -/
theorem step_set {n k : Nat} {t : Int} {j : Nat} (h1 : 1 ≤ n) (h8 : n ≤ 8) (hj : j < n) (hjk : j = k) : setM (feL n k t j) [] 0 (j : Int) t = ⟨feL n k t (j + 1), [], 0, 0⟩ := by
  unfold setM
  rw [if_pos (inM_at h1 h8 hj), Int.toNat_natCast, feL_at hj, ← feL_set hj]
  unfold feI
  rw [if_pos hjk]
  have : max inZ.mark (clampT t) = clampT t := by unfold inZ clampT; simp; omega
  rw [this]
theorem step_fin {n k : Nat} {t : Int} {j : Nat} (h1 : 1 ≤ n) (h8 : n ≤ 8) (hj : j < n) (hjk : j ≠ k) (h2 : j % 2 = 0) : setM (feL n k t j) [] 0 (j : Int) 1099511627776 = ⟨feL n k t (j + 1), [], 0, 0⟩ := by
  unfold setM
  rw [if_pos (inM_at h1 h8 hj), Int.toNat_natCast, feL_at hj, ← feL_set hj]
  unfold feI
  rw [if_neg hjk, if_pos h2]
  rfl
theorem step_idle {n k : Nat} {t : Int} {j : Nat} (h1 : 1 ≤ n) (h8 : n ≤ 8) (hj : j < n) (hjk : j ≠ k) (h2 : j % 2 ≠ 0) : idleM (feL n k t j) [] 0 (j : Int) = ⟨feL n k t (j + 1), [], 0, 0⟩ := by
  unfold idleM
  rw [if_pos (inM_at h1 h8 hj), Int.toNat_natCast, feL_at hj, ← feL_set hj]
  unfold feI
  rw [if_neg hjk, if_neg h2]
  rfl
theorem first_eq {l : List Int} {x : Int} (hx : x ∈ l) (h0 : clampT x = x) (h : ∀ y ∈ l, x ≤ clampT y) (hf : x ≤ 1099511627776) : firstT l = x := by
  have h1 := first_le l x hx
  rw [h0] at h1
  have : ∀ (l : List Int) (a : Int), x ≤ a → (∀ y ∈ l, x ≤ clampT y) → x ≤ l.foldl (fun a t => min a (clampT t)) a := by
    intro l
    induction l with
    | nil => intro a ha _; exact ha
    | cons y l ih =>
      intro a ha hy
      rw [List.foldl_cons]
      exact ih _ (by have := hy y (List.mem_cons_self ..); omega) (fun z hz => hy z (List.mem_cons_of_mem _ hz))
  have h2 : x ≤ firstT l := this l _ hf h
  omega
theorem tell_of {li : List Inp} {x : Int} {i : Nat} (hi : li[i]? = some ⟨x, false⟩) (h0 : 0 ≤ x) (hf : x ≤ 1099511627776) (h : ∀ y ∈ li, y.idle = false → x ≤ y.mark ∧ y.mark ≤ 1099511627776) : outM li [] 0 = x := by
  have hfst : firstT (tellL li []) = x := by
    refine first_eq (by unfold tellL; exact List.mem_append.2 (.inl (by unfold backI; exact List.mem_map.2 ⟨_, List.mem_filter.2 ⟨List.mem_of_getElem? hi, rfl⟩, rfl⟩))) (by unfold clampT; omega) ?_ hf
    intro y hy
    unfold tellL backH at hy
    rw [List.map_nil, List.append_nil] at hy
    unfold backI at hy
    obtain ⟨z, hz, rfl⟩ := List.mem_map.1 hy
    obtain ⟨hz1, hz2⟩ := List.mem_filter.1 hz
    have := h z hz1 (by simpa using hz2)
    unfold clampT
    omega
  have hlen : 0 < (tellL li []).length := by
    have : x ∈ tellL li [] := by unfold tellL; exact List.mem_append.2 (.inl (by unfold backI; exact List.mem_map.2 ⟨_, List.mem_filter.2 ⟨List.mem_of_getElem? hi, rfl⟩, rfl⟩))
    exact List.length_pos_of_mem this
  unfold outM laterM
  rw [hfst]
  simp only [hlen, decide_true, Bool.true_and]
  by_cases hx : 0 < x
  · simp [hx]
  · simp [hx]; omega
/-- What is told in the end. -/
theorem fe_told {n k : Nat} (t : Int) (hk : k < n) : outM (feL n k t n) [] 0 = clampT t := by
  refine tell_of (i := k) (by rw [feL_get hk, if_pos hk]; unfold feI; rw [if_pos rfl]) (by unfold clampT; omega) (by unfold clampT; omega) ?_
  intro y hy hid
  obtain ⟨i, hi⟩ := List.mem_iff_getElem?.1 hy
  have hlt := (List.getElem?_eq_some_iff.1 hi).1
  rw [feL_len] at hlt
  rw [feL_get hlt, if_pos hlt] at hi
  injection hi with hi
  rw [← hi] at hid ⊢
  unfold feI at hid ⊢
  split
  · exact ⟨Int.le_refl _, by show clampT t ≤ _; unfold clampT; omega⟩
  · rename_i h
    rw [if_neg h] at hid
    split
    · exact ⟨by show clampT t ≤ (1099511627776 : Int); unfold clampT; omega, Int.le_refl _⟩
    · rename_i h2; rw [if_neg h2] at hid; cases hid
theorem fe_last {n k : Nat} (t : Int) (h1 : 1 ≤ n) (h8 : n ≤ 8) (hk : k < n) : setM (feL n k t n) [] 0 (k : Int) 1099511627776 = ⟨(feL n k t n).set k ⟨1099511627776, false⟩, [], 0, 0⟩ := by
  unfold setM
  have : inM (feL n k t n) [] 0 (k : Int) = true := by unfold inM; rw [feL_right n k t n h1 h8, feL_len]; simp; exact hk
  rw [if_pos this, Int.toNat_natCast]
  have hg : (feL n k t n)[k]! = ⟨clampT t, false⟩ := by
    have := feL_get (k := k) (t := t) (j := n) hk
    rw [if_pos hk] at this
    unfold feI at this
    rw [if_pos rfl] at this
    exact inAt_get this
  rw [hg]
  have : max (clampT t) (clampT 1099511627776) = 1099511627776 := by unfold clampT; omega
  rw [this]
theorem fe_end {n k : Nat} (t : Int) (hk : k < n) : outM ((feL n k t n).set k ⟨1099511627776, false⟩) [] 0 = 1099511627776 := by
  refine tell_of (i := k) (List.getElem?_set_self (by rw [feL_len]; exact hk)) (by decide) (Int.le_refl _) ?_
  intro y hy hid
  obtain ⟨i, hi⟩ := List.mem_iff_getElem?.1 hy
  have hlt := (List.getElem?_eq_some_iff.1 hi).1
  rw [List.length_set, feL_len] at hlt
  by_cases hik : k = i
  · subst hik
    rw [List.getElem?_set_self (by rw [feL_len]; exact hk)] at hi
    injection hi with hi
    rw [← hi]
    exact ⟨Int.le_refl _, Int.le_refl _⟩
  · rw [List.getElem?_set_ne hik, feL_get hlt, if_pos hlt] at hi
    injection hi with hi
    rw [← hi] at hid ⊢
    unfold feI at hid ⊢
    rw [if_neg (fun e => hik e.symm)] at hid ⊢
    split
    · exact ⟨Int.le_refl _, Int.le_refl _⟩
    · rename_i h2; rw [if_neg h2] at hid; cases hid
theorem hold_free {li : List Inp} {o no : Int} (h : rightM li [] o = true) (h0 : 0 ≤ no) (a : Int) : holdM li [] o no a = ⟨li, [⟨no, clampT a⟩], o, 0⟩ ∧ freeM li [⟨no, clampT a⟩] o no = ⟨li, [], o, 0⟩ := by
  have hp : putH [] no a = [⟨no, clampT a⟩] := rfl
  refine ⟨?_, ?_⟩
  · unfold holdM
    rw [if_pos (by rw [h]; simp; exact h0), hp, if_pos (by simp)]
  · have hr := right_put h h0 a (by rw [hp]; simp)
    rw [hp] at hr
    unfold freeM
    rw [if_pos (by rw [hr]; unfold hasH; simp)]
    have : remH [⟨no, clampT a⟩] no = [] := by unfold remH; simp
    rw [this]
end Go.Proofs.Ytdanfeldbdooeaa
