/-
  PLAIN: what waited, offered again.
-/
import Derived.Test.YtenpgkkefielfaaCutP2
import Derived.Test.YtenpgkkefielfaaAlignW17
set_option linter.unusedVariables false
set_option linter.unusedSimpArgs false
namespace Go.Proofs.Ytenpgkkefielfaa
open Go.RowKit

/-- How many of what waited are of an input. -/
def cntL (L : List Lt) (j : Nat) : Nat := (L.filter (fun y => decide (y.k = (j : Int)))).length
theorem cntL_app (L M : List Lt) (j : Nat) : cntL (L ++ M) j = cntL L j + cntL M j := by
  unfold cntL
  rw [List.filter_append, List.length_append]
theorem cntL_lateL (m : Nat) (l : List It) (j : Nat) : cntL (lateL (m : Int) l) j = if j = m then l.length else 0 := by
  unfold cntL lateL
  by_cases h : j = m
  · subst h
    rw [if_pos rfl, List.filter_eq_self.2 (fun y hy => by obtain ⟨x, -, rfl⟩ := List.mem_map.1 hy; simp), List.length_map]
  · rw [if_neg h, List.filter_eq_nil_iff.2 (fun y hy => by obtain ⟨x, -, rfl⟩ := List.mem_map.1 hy; simp; omega)]
    rfl
theorem cntL_take_snoc {L : List Lt} {q : Nat} {y : Lt} (hy : L[q]? = some y) (j : Nat) : cntL (L.take (q + 1)) j = cntL (L.take q) j + (if y.k = (j : Int) then 1 else 0) := by
  rw [List.take_add_one, hy, cntL_app]
  congr 1
  unfold cntL
  by_cases h : y.k = (j : Int)
  · simp [h]
  · simp [h]
section
variable {n : Nat} {R : Nat → List It} {E : Nat → Nat → Nat} {c : Nat} {pos : Nat → Nat} {hs : List Hl}
theorem cntL_lateTo (hh : ∀ j, j < n → ∃ h, hs[j]? = some h ∧ h.l = hldP (R j) (E j) c (pos j)) (j : Nat) : ∀ m, m ≤ n → cntL (lateTo hs m) j = if j < m then (hldP (R j) (E j) c (pos j)).length else 0
  | 0, _ => by rw [if_neg (by omega)]; rfl
  | m + 1, hm => by
    obtain ⟨h, h1, h2⟩ := hh m (by omega)
    rw [lateTo_succ h1, cntL_app, cntL_lateTo hh j m (by omega), cntL_lateL]
    by_cases e : j = m
    · subst e
      rw [if_neg (by omega), if_pos rfl, if_pos (by omega), h2]
      omega
    · rw [if_neg e]
      by_cases e2 : j < m
      · rw [if_pos e2, if_pos (by omega)]
        omega
      · rw [if_neg e2, if_neg (by omega)]
theorem late_next (hh : ∀ j, j < n → ∃ h, hs[j]? = some h ∧ h.l = hldP (R j) (E j) c (pos j)) : ∀ m, m ≤ n → ∀ (q : Nat) (y : Lt), (lateTo hs m)[q]? = some y →
    ∃ j, j < m ∧ y.k = (j : Int) ∧ (R j)[E j c + 1 + cntL ((lateTo hs m).take q) j]? = some y.it
  | 0, _, q, y, hy => by simp [lateTo] at hy
  | m + 1, hm, q, y, hy => by
    obtain ⟨h, h1, h2⟩ := hh m (by omega)
    rw [lateTo_succ h1] at hy ⊢
    by_cases hq : q < (lateTo hs m).length
    · rw [List.getElem?_append_left hq] at hy
      obtain ⟨j, hj, hk, hr⟩ := late_next hh m (by omega) q y hy
      refine ⟨j, by omega, hk, ?_⟩
      rw [List.take_append_of_le_length (Nat.le_of_lt hq)]
      exact hr
    · rw [List.getElem?_append_right (by omega)] at hy
      obtain ⟨i, hi⟩ : ∃ i, q = (lateTo hs m).length + i := ⟨q - (lateTo hs m).length, by omega⟩
      subst hi
      rw [Nat.add_sub_cancel_left] at hy
      unfold lateL at hy
      rw [List.getElem?_map] at hy
      cases hx : h.l[i]? with
      | none => rw [hx] at hy; cases hy
      | some x =>
        rw [hx] at hy
        injection hy with hy
        subst hy
        refine ⟨m, by omega, rfl, ?_⟩
        have hil := (List.getElem?_eq_some_iff.1 hx).1
        rw [List.take_append, List.take_of_length_le (by omega), Nat.add_sub_cancel_left, cntL_app, cntL_lateTo hh m m (by omega), if_neg (by omega)]
        have e : (lateL (m : Int) h.l).take i = lateL (m : Int) (h.l.take i) := by unfold lateL; rw [List.map_take]
        rw [e, cntL_lateL, if_pos rfl, List.length_take, Nat.min_eq_left (Nat.le_of_lt hil), Nat.zero_add]
        rw [h2] at hx
        exact hldP_get hx
end
end Go.Proofs.Ytenpgkkefielfaa
