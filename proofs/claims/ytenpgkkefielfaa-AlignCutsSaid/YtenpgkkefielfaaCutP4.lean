/-
  PLAIN: how many items are left, and until when; what the rows that wait read as.
-/
import Derived.Test.YtenpgkkefielfaaCutP3
set_option linter.unusedVariables false
set_option linter.unusedSimpArgs false
namespace Go.Proofs.Ytenpgkkefielfaa
open Go.RowKit

def sumN (f : Nat → Nat) : Nat → Nat
  | 0 => 0
  | n + 1 => sumN f n + f n
theorem sumN_congr {f g : Nat → Nat} : ∀ n, (∀ j, j < n → f j = g j) → sumN f n = sumN g n
  | 0, _ => rfl
  | n + 1, h => by
    show sumN f n + f n = sumN g n + g n
    rw [sumN_congr n (fun j hj => h j (by omega)), h n (by omega)]
theorem sumN_le {f : Nat → Nat} {M : Nat} : ∀ n, (∀ j, j < n → f j ≤ M) → sumN f n ≤ M * n
  | 0, _ => Nat.zero_le _
  | n + 1, h => by
    have h1 := sumN_le n (fun j hj => h j (by omega))
    have h2 := h n (by omega)
    show sumN f n + f n ≤ M * (n + 1)
    rw [Nat.mul_succ]
    omega
theorem sumN_zero {f : Nat → Nat} : ∀ n, sumN f n = 0 → ∀ j, j < n → f j = 0
  | 0, _, j, hj => by omega
  | n + 1, h, j, hj => by
    have h : sumN f n + f n = 0 := h
    by_cases e : j = n
    · subst e
      omega
    · exact sumN_zero n (by omega) j (by omega)
theorem sumN_pos {f : Nat → Nat} : ∀ n, 0 < sumN f n → ∃ j, j < n ∧ 0 < f j
  | 0, h => by have h : 0 < 0 := h; omega
  | n + 1, h => by
    have h2 : 0 < sumN f n + f n := h
    by_cases e : 0 < f n
    · exact ⟨n, by omega, e⟩
    · have h3 : 0 < sumN f n := by omega
      obtain ⟨j, hj, hf⟩ := sumN_pos n h3
      exact ⟨j, by omega, hf⟩
theorem sumN_take {f g : Nat → Nat} {k : Nat} (hk : g k + 1 = f k) (ho : ∀ j, j ≠ k → g j = f j) : ∀ n, k < n → sumN g n + 1 = sumN f n
  | 0, h => by omega
  | n + 1, h => by
    show sumN g n + g n + 1 = sumN f n + f n
    by_cases e : k = n
    · subst e
      rw [sumN_congr k (fun j hj => ho j (by omega))]
      omega
    · have := sumN_take hk ho n (by omega)
      rw [ho n (by omega)]
      omega
/-- Behind the turns that are given each input is asked again after so many rounds: so the rows are at their ends in time. -/
def TmOk (T n i : Nat) (f : Nat → Nat) : Prop := i < T ∨ ∀ j, j < n → ∃ t, i ≤ t ∧ t < i + n ∧ t % n = j ∧ (0 < f j → t + n * (f j - 1) < T + 14 * n)
theorem next_at {n : Nat} (j : Nat) (hj : j < n) : ∀ i, ∃ t, i ≤ t ∧ t < i + n ∧ t % n = j
  | 0 => ⟨j, Nat.zero_le _, by omega, Nat.mod_eq_of_lt hj⟩
  | i + 1 => by
    obtain ⟨t, h1, h2, h3⟩ := next_at j hj i
    by_cases e : t = i
    · subst e
      exact ⟨t + n, by omega, by omega, by rw [Nat.add_mod_right]; exact h3⟩
    · exact ⟨t, by omega, by omega, h3⟩
theorem TmOk.start {T n : Nat} {f : Nat → Nat} (h : ∀ j, j < n → f j ≤ 14) : TmOk T n T f := by
  refine .inr fun j hj => ?_
  obtain ⟨t, h1, h2, h3⟩ := next_at j hj T
  refine ⟨t, h1, h2, h3, fun hf => ?_⟩
  have := h j hj
  have h4 : n * (f j - 1) ≤ n * 13 := Nat.mul_le_mul_left n (by omega)
  omega
theorem TmOk.early {T n i : Nat} {f : Nat → Nat} (h : ∀ j, j < n → f j ≤ 14) (hi : i ≤ T) : TmOk T n i f := by
  by_cases e : i = T
  · subst e
    exact TmOk.start h
  · exact .inl (by omega)
theorem TmOk.lt {T n i : Nat} {f : Nat → Nat} (h : TmOk T n i f) (hf : 0 < sumN f n) : i < T + 14 * n := by
  obtain ⟨j, hj, hjf⟩ := sumN_pos n hf
  rcases h with h | h
  · omega
  · obtain ⟨t, h1, h2, -, h4⟩ := h j hj
    have := h4 hjf
    omega
theorem TmOk.step {T n i k : Nat} {f g : Nat → Nat} (h : TmOk T n i f) (hi : T ≤ i) (hk : i % n = k) (h1 : ∀ j, j ≠ k → g j = f j) (h2 : g k = f k - 1) : TmOk T n (i + 1) g := by
  rcases h with h | h
  · omega
  refine .inr fun j hj => ?_
  obtain ⟨t, t1, t2, t3, t4⟩ := h j hj
  by_cases e : j = k
  · subst e
    have : t = i := by
      have h5 := Nat.sub_mod_eq_zero_of_mod_eq (t3.trans hk.symm)
      rw [Nat.mod_eq_of_lt (by omega)] at h5
      omega
    subst this
    refine ⟨t + n, by omega, by omega, by rw [Nat.add_mod_right]; exact t3, fun hf => ?_⟩
    have h6 := t4 (by omega)
    obtain ⟨q, hq⟩ : ∃ q, f j = q + 2 := ⟨f j - 2, by omega⟩
    rw [h2, hq]
    rw [hq, show q + 2 - 1 = q + 1 from rfl, Nat.mul_succ] at h6
    show t + n + n * (q + 2 - 1 - 1) < _
    rw [show q + 2 - 1 - 1 = q from rfl]
    omega
  · refine ⟨t, ?_, by omega, t3, by rw [h1 j e]; exact t4⟩
    by_cases e2 : t = i
    · subst e2
      exact absurd (t3.symm.trans hk) e
    · omega
theorem tmod_nat (i n : Nat) : ((i : Int)).tmod (n : Int) = ((i % n : Nat) : Int) := rfl
theorem turn_at {q : Int} {n : Nat} (h1 : 1 ≤ n) (h8 : n ≤ 8) : ∃ k : Nat, k < n ∧ (wrap64 (q.tmod (n : Int) + (n : Int))).tmod (n : Int) = (k : Int) ∧ ∀ i : Nat, q = (i : Int) → k = i % n := by
  have b1 := Int.tmod_lt_of_pos q (show (0 : Int) < (n : Int) by omega)
  have b2 := Int.lt_tmod_of_pos q (show (0 : Int) < (n : Int) by omega)
  have hw : wrap64 (q.tmod (n : Int) + (n : Int)) = q.tmod (n : Int) + (n : Int) := by unfold wrap64; omega
  have e1 := Int.emod_nonneg (q.tmod (n : Int) + (n : Int)) (show (n : Int) ≠ 0 by omega)
  have e2 := Int.emod_lt_of_pos (q.tmod (n : Int) + (n : Int)) (show (0 : Int) < (n : Int) by omega)
  refine ⟨((q.tmod (n : Int) + (n : Int)) % (n : Int)).toNat, by omega, ?_, fun i hi => ?_⟩
  · rw [hw, Int.tmod_eq_emod_of_nonneg (by omega)]
    omega
  · subst hi
    rw [tmod_nat]
    have : ((i % n : Nat) : Int) + (n : Int) = ((i % n + n : Nat) : Int) := by omega
    rw [this, ← Int.natCast_emod, Int.toNat_natCast, Nat.add_mod_right, Nat.mod_mod]
/-- All rows are at their ends. -/
theorem CSt.full {B n : Nat} {R : Nat → List It} {E : Nat → Nat → Nat} {c : Nat} {pos : Nat → Nat} {a : Aln} {P : Nat → List It} (h : CSt B n R E c pos a P) (hf : ∀ j, j < n → (R j).length - pos j = 0) :
    c = B ∧ ∀ j, j < n → P j = ((R j).take (E j B)).drop (sgo (E j) B) := by
  obtain ⟨j, hj, hjp⟩ := h.wait
  have h1 := hf j hj
  have hcB : c = B := by
    by_cases e : c = B
    · exact e
    · have := (h.row j hj).lt (c := c) (by have := h.cB; omega)
      omega
  subst hcB
  refine ⟨rfl, fun i hi => ?_⟩
  rw [h.pas i hi]
  exact segP_end (by have := hf i hi; rw [(h.row i hi).last]; omega)
/-- The next of a row. -/
theorem drop_at {r : List It} {p : Nat} {x : It} (h : (r.drop p)[0]? = some x) : r[p]? = some x := by
  rw [List.getElem?_drop] at h
  exact h
end Go.Proofs.Ytenpgkkefielfaa
