/-
  PLAIN: what keeps a heap a heap.
-/
import Derived.Test.YtlboehpgpbchhaaDueW2
set_option linter.unusedVariables false
set_option linter.unusedSimpArgs false
namespace Go.Proofs.Ytlboehpgpbchhaa
open Go.RowKit

/-- The time of a timer in a row. -/
def key (l : List Tm) (i : Nat) : Int := match l[i]? with
  | some x => x.a
  | none => 0
theorem key_at {l : List Tm} {i : Nat} (h : i < l.length) : key l i = (l[i]).a := by unfold key; rw [List.getElem?_eq_getElem h]
theorem key_swp {l : List Tm} {i j : Nat} (hi : i < l.length) (hj : j < l.length) (x : Nat) : key (swpL l i j) x = if x = j then key l i else if x = i then key l j else key l x := by
  rw [swpL_eq (List.getElem?_eq_getElem hi) (List.getElem?_eq_getElem hj)]
  unfold key
  by_cases h1 : x = j
  · subst h1
    rw [if_pos rfl, List.getElem?_set_self (by simpa using hj), List.getElem?_eq_getElem hi]
  · rw [if_neg h1, List.getElem?_set_ne (fun e => h1 e.symm)]
    by_cases h2 : x = i
    · subst h2
      rw [if_pos rfl, List.getElem?_set_self hi, List.getElem?_eq_getElem hj]
    · rw [if_neg h2, List.getElem?_set_ne (fun e => h2 e.symm)]
theorem swp_perm (l : List Tm) (i j : Nat) : (swpL l i j).Perm l := by
  unfold swpL
  split
  · rename_i x y hx hy
    obtain ⟨hi, rfl⟩ := List.getElem?_eq_some_iff.1 hx
    obtain ⟨hj, rfl⟩ := List.getElem?_eq_some_iff.1 hy
    have h := Array.swap_perm (xs := l.toArray) (i := i) (j := j) (by simpa using hi) (by simpa using hj)
    have h2 := Array.perm_iff_toList_perm.1 h
    simpa using h2
  · exact List.Perm.refl _
def HpF (k : Nat → Int) (n : Nat) : Prop := ∀ i, 0 < i → i < n → k ((i - 1) / 2) ≤ k i
def UpI (k : Nat → Int) (n j : Nat) : Prop := (∀ i, 0 < i → i < n → i ≠ j → k ((i - 1) / 2) ≤ k i) ∧ (0 < j → ∀ i, 0 < i → i < n → (i - 1) / 2 = j → k ((j - 1) / 2) ≤ k i)
theorem up_zero {k : Nat → Int} {n : Nat} (h : UpI k n 0) : HpF k n := fun i h0 hn => h.1 i h0 hn (by omega)
theorem up_stop {k : Nat → Int} {n j : Nat} (h : UpI k n j) (hle : k ((j - 1) / 2) ≤ k j) : HpF k n := by
  intro i h0 hn
  by_cases e : i = j
  · subst e; exact hle
  · exact h.1 i h0 hn e
theorem up_step {k k' : Nat → Int} {n j p : Nat} (h : UpI k n j) (h0 : 0 < j) (hj : j < n) (hp : (j - 1) / 2 = p) (hle : k j ≤ k p) (hk : ∀ x, k' x = if x = j then k p else if x = p then k j else k x) : UpI k' n p := by
  have hpj : p < j := by omega
  constructor
  · intro i i0 hi hne
    obtain ⟨q, hq⟩ : ∃ q, (i - 1) / 2 = q := ⟨_, rfl⟩
    rw [hq]
    by_cases e : i = j
    · subst e
      obtain rfl : p = q := by omega
      rw [hk i, if_pos rfl, hk p, if_neg (by omega), if_pos rfl]
      exact hle
    · rw [hk i, if_neg e, if_neg hne, hk q]
      by_cases e1 : q = j
      · rw [if_pos e1]
        have := h.2 h0 i i0 hi (by omega)
        rw [hp] at this
        exact this
      · rw [if_neg e1]
        have h1 := h.1 i i0 hi e
        rw [hq] at h1
        by_cases e2 : q = p
        · rw [if_pos e2]
          subst e2
          omega
        · rw [if_neg e2]
          exact h1
  · intro p0 i i0 hi hq
    obtain ⟨q, hqq⟩ : ∃ q, (p - 1) / 2 = q := ⟨_, rfl⟩
    rw [hqq, hk q, if_neg (by omega), if_neg (by omega)]
    have h1 := h.1 p p0 (by omega) (by omega)
    rw [hqq] at h1
    by_cases e : i = j
    · subst e
      rw [hk i, if_pos rfl]
      exact h1
    · have h2 := h.1 i i0 hi e
      rw [hq] at h2
      rw [hk i, if_neg e, if_neg (by omega)]
      omega
def DnI (k : Nat → Int) (n i : Nat) : Prop := (∀ c, 0 < c → c < n → (c - 1) / 2 ≠ i → k ((c - 1) / 2) ≤ k c) ∧ (0 < i → ∀ c, 0 < c → c < n → (c - 1) / 2 = i → k ((i - 1) / 2) ≤ k c)
theorem dn_stop {k : Nat → Int} {n i : Nat} (h : DnI k n i) (hle : ∀ c, 0 < c → c < n → (c - 1) / 2 = i → k i ≤ k c) : HpF k n := by
  intro c c0 hc
  by_cases e : (c - 1) / 2 = i
  · rw [e]; exact hle c c0 hc e
  · exact h.1 c c0 hc e
theorem dn_step {k k' : Nat → Int} {n i j : Nat} (h : DnI k n i) (hj0 : 0 < j) (hj : j < n) (hp : (j - 1) / 2 = i) (hmin : ∀ c, 0 < c → c < n → (c - 1) / 2 = i → k j ≤ k c) (hle : k j ≤ k i) (hk : ∀ x, k' x = if x = j then k i else if x = i then k j else k x) : DnI k' n j := by
  have hij : i < j := by omega
  constructor
  · intro c c0 hc hne
    obtain ⟨q, hq⟩ : ∃ q, (c - 1) / 2 = q := ⟨_, rfl⟩
    rw [hq]
    rw [hq] at hne
    by_cases e : c = j
    · subst e
      obtain rfl : i = q := by omega
      rw [hk c, if_pos rfl, hk i, if_neg (by omega), if_pos rfl]
      exact hle
    · by_cases e1 : c = i
      · subst e1
        rw [hk q, if_neg hne, if_neg (by omega), hk c, if_neg e, if_pos rfl]
        have := h.2 c0 j hj0 hj hp
        rw [hq] at this
        exact this
      · rw [hk c, if_neg e, if_neg e1, hk q, if_neg hne]
        by_cases e2 : q = i
        · rw [if_pos e2]
          exact hmin c c0 hc (by omega)
        · rw [if_neg e2]
          have := h.1 c c0 hc (by omega)
          rw [hq] at this
          exact this
  · intro _ c c0 hc hq
    rw [hp, hk i, if_neg (by omega), if_pos rfl, hk c, if_neg (by omega), if_neg (by omega)]
    have := h.1 c c0 hc (by omega)
    rw [hq] at this
    exact this
theorem dn_start {k k' : Nat → Int} {n : Nat} (h : HpF k (n + 1)) (hk : ∀ x, k' x = if x = n then k 0 else if x = 0 then k n else k x) : DnI k' n 0 := by
  refine ⟨fun c c0 hc hne => ?_, fun h0 => by omega⟩
  rw [hk, if_neg (by omega), if_neg hne, hk c, if_neg (by omega), if_neg (by omega)]
  exact h c c0 (by omega)
theorem hp_root {k : Nat → Int} {n : Nat} (h : HpF k n) : ∀ i, i < n → k 0 ≤ k i := by
  intro i
  induction i using Nat.strongRecOn with
  | _ i ih =>
    intro hi
    by_cases h0 : i = 0
    · subst h0; exact Int.le_refl _
    · have h1 := ih ((i - 1) / 2) (by omega) (by omega)
      have h2 := h i (by omega) hi
      omega
theorem hp_take {l : List Tm} {n : Nat} (h : HpF (key l) n) (hn : n ≤ l.length) : HpF (key (l.take n)) n := by
  intro i h0 hi
  have h1 := h i h0 hi
  unfold key at h1 ⊢
  rw [List.getElem?_take_of_lt hi, List.getElem?_take_of_lt (by omega)]
  exact h1
theorem up_start {l : List Tm} {x : Tm} (h : HpF (key l) l.length) : UpI (key (l ++ [x])) (l.length + 1) l.length := by
  have hk : ∀ i, i < l.length → key (l ++ [x]) i = key l i := fun i hi => by unfold key; rw [List.getElem?_append_left hi]
  constructor
  · intro i h0 hi hne
    rw [hk _ (by omega), hk _ (by omega)]
    exact h i h0 (by omega)
  · intro h0 i i0 hi hq
    omega
theorem up_push {l : List Tm} {x : Tm} (h : HpF (key l) l.length) : UpI (key (l ++ [x])) (l ++ [x]).length l.length := by
  rw [List.length_append]; exact up_start h
end Go.Proofs.Ytlboehpgpbchhaa
