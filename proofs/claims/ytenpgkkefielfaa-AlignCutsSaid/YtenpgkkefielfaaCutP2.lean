/-
  PLAIN: what an offer makes of it.
-/
import Derived.Test.YtenpgkkefielfaaCutP1
set_option linter.unusedVariables false
set_option linter.unusedSimpArgs false
namespace Go.Proofs.Ytenpgkkefielfaa
open Go.RowKit

def updN {α : Type} (f : Nat → α) (k : Nat) (v : α) (j : Nat) : α := if j = k then v else f j
theorem updN_same {α : Type} (f : Nat → α) (k : Nat) (v : α) : updN f k v k = v := if_pos rfl
theorem updN_other {α : Type} (f : Nat → α) {k j : Nat} (v : α) (h : j ≠ k) : updN f k v j = f j := if_neg h
section
variable {B n : Nat} {R : Nat → List It} {E : Nat → Nat → Nat} {c : Nat} {pos : Nat → Nat} {a : Aln} {P : Nat → List It}
/-- The place is in the segment, so it is no barrier. -/
theorem CSt.nobar (h : CSt B n R E c pos a P) {k : Nat} (hk : k < n) (hp : pos k < E k c) : ∀ d, d < B → pos k ≠ E k d := by
  intro d hd e
  have hr := h.row k hk
  have hlo := h.lo k hk
  rcases Nat.lt_trichotomy d c with h1 | h1 | h1
  · obtain ⟨c', rfl⟩ : ∃ c', c = c' + 1 := ⟨c - 1, by omega⟩
    have hlo : E k c' + 1 ≤ pos k := hlo
    have : E k d ≤ E k c' := by
      by_cases e2 : d = c'
      · subst e2
        exact Nat.le_refl _
      · exact Nat.le_of_lt (hr.mono (by omega) (by have := h.cB; omega))
    omega
  · subst h1
    omega
  · have := hr.mono h1 (by omega)
    omega
theorem CSt.pass (h : CSt B n R E c pos a P) {k : Nat} (hk : k < n) (hp : pos k < E k c) {x : It} (hx : (R k)[pos k]? = some x) :
    a.got[k]? = some false ∧ x.kind ≠ 4 ∧ CSt B n R E c (updN pos k (pos k + 1)) a (updN P k (P k ++ [x])) := by
  have hlt := (List.getElem?_eq_some_iff.1 hx).1
  refine ⟨?_, (h.row k hk).mark _ _ hx (h.nobar hk hp), ?_⟩
  · rw [h.got k hk, decide_eq_false (by omega)]
  have hpos : ∀ j, j < n → (E j c < updN pos k (pos k + 1) j ↔ E j c < pos j) := by
    intro j hj
    by_cases e : j = k
    · subst e
      rw [updN_same]
      omega
    · rw [updN_other _ _ e]
  refine ⟨h.n1, h.n8, h.cB, h.B2, h.row, ?_, ?_, ?_, h.gl, h.hl, ?_, ?_, ?_, ?_⟩
  · intro j hj
    by_cases e : j = k
    · subst e
      rw [updN_same]
      have := h.lo j hj
      omega
    · rw [updN_other _ _ e]
      exact h.lo j hj
  · intro j hj
    by_cases e : j = k
    · subst e
      rw [updN_same]
      omega
    · rw [updN_other _ _ e]
      exact h.hi j hj
  · rw [h.num]
    have : (∃ j, j < n ∧ E j c < updN pos k (pos k + 1) j) ↔ (∃ j, j < n ∧ E j c < pos j) :=
      ⟨fun ⟨j, h1, h2⟩ => ⟨j, h1, (hpos j h1).1 h2⟩, fun ⟨j, h1, h2⟩ => ⟨j, h1, (hpos j h1).2 h2⟩⟩
    simp only [this]
  · intro j hj
    rw [h.got j hj]
    congr 1
    exact decide_eq_decide.2 (hpos j hj).symm
  · intro j hj
    obtain ⟨y, hy1, hy2⟩ := h.held j hj
    refine ⟨y, hy1, ?_⟩
    by_cases e : j = k
    · subst e
      rw [updN_same, hy2, hldP_nil (by omega), hldP_nil (by omega)]
    · rw [updN_other _ _ e]
      exact hy2
  · obtain ⟨j, hj, hjp⟩ := h.wait
    by_cases e : j = k
    · subst e
      exact ⟨j, hj, by rw [updN_same]; omega⟩
    · exact ⟨j, hj, by rw [updN_other _ _ e]; exact hjp⟩
  · intro j hj
    by_cases e : j = k
    · subst e
      rw [updN_same, updN_same, h.pas j hj, segP_step hx (h.lo j hj) hp]
    · rw [updN_other _ _ e, updN_other _ _ e]
      exact h.pas j hj
theorem CSt.hold (h : CSt B n R E c pos a P) {k : Nat} (hk : k < n) (hp : E k c < pos k) {x : It} (hx : (R k)[pos k]? = some x) {y : Hl} (hy : a.held[k]? = some y) (row : Value) :
    a.got[k]? = some true ∧ y.l.length < 16 ∧ CSt B n R E c (updN pos k (pos k + 1)) { a with held := a.held.set k ⟨row, y.l ++ [x]⟩ } P := by
  have hlt := (List.getElem?_eq_some_iff.1 hx).1
  obtain ⟨y', hy1, hy2⟩ := h.held k hk
  rw [hy] at hy1
  injection hy1 with hy1
  subst hy1
  refine ⟨?_, ?_, ?_⟩
  · rw [h.got k hk, decide_eq_true hp]
  · rw [hy2, hldP_len (h.hi k hk)]
    have := (h.row k hk).len
    omega
  have hpos : ∀ j, j < n → (E j c < updN pos k (pos k + 1) j ↔ E j c < pos j) := by
    intro j hj
    by_cases e : j = k
    · subst e
      rw [updN_same]
      omega
    · rw [updN_other _ _ e]
  refine ⟨h.n1, h.n8, h.cB, h.B2, h.row, ?_, ?_, ?_, h.gl, by simp [h.hl], ?_, ?_, ?_, ?_⟩
  · intro j hj
    by_cases e : j = k
    · subst e
      rw [updN_same]
      have := h.lo j hj
      omega
    · rw [updN_other _ _ e]
      exact h.lo j hj
  · intro j hj
    by_cases e : j = k
    · subst e
      rw [updN_same]
      omega
    · rw [updN_other _ _ e]
      exact h.hi j hj
  · show a.n = _
    rw [h.num]
    have : (∃ j, j < n ∧ E j c < updN pos k (pos k + 1) j) ↔ (∃ j, j < n ∧ E j c < pos j) :=
      ⟨fun ⟨j, h1, h2⟩ => ⟨j, h1, (hpos j h1).1 h2⟩, fun ⟨j, h1, h2⟩ => ⟨j, h1, (hpos j h1).2 h2⟩⟩
    simp only [this]
  · intro j hj
    show a.got[j]? = _
    rw [h.got j hj]
    congr 1
    exact decide_eq_decide.2 (hpos j hj).symm
  · intro j hj
    by_cases e : j = k
    · subst e
      refine ⟨⟨row, y.l ++ [x]⟩, ?_, ?_⟩
      · show (a.held.set j _)[j]? = _
        rw [List.getElem?_set_self (by rw [h.hl]; exact hj)]
      · rw [updN_same, hldP_step hx hp, ← hy2]
    · obtain ⟨z, hz1, hz2⟩ := h.held j hj
      refine ⟨z, ?_, by rw [updN_other _ _ e]; exact hz2⟩
      show (a.held.set k _)[j]? = _
      rw [List.getElem?_set_ne (fun e2 => e e2.symm)]
      exact hz1
  · obtain ⟨j, hj, hjp⟩ := h.wait
    by_cases e : j = k
    · subst e
      omega
    · exact ⟨j, hj, by rw [updN_other _ _ e]; exact hjp⟩
  · intro j hj
    rw [h.pas j hj]
    by_cases e : j = k
    · subst e
      rw [updN_same, segP_end (by omega), segP_end (by omega)]
    · rw [updN_other _ _ e]
/-- At the place of a barrier. -/
theorem CSt.at_bar (h : CSt B n R E c pos a P) {k : Nat} (hk : k < n) (hp : pos k = E k c) {x : It} (hx : (R k)[pos k]? = some x) :
    c < B ∧ x = barI ((c : Int) + 1) ∧ a.got[k]? = some false ∧ (a.n = 0 ∨ a.n = x.n) := by
  have hlt := (List.getElem?_eq_some_iff.1 hx).1
  have hr := h.row k hk
  have hcB : c < B := by
    have := h.cB
    by_cases e : c = B
    · rw [hp, e, hr.last] at hlt
      omega
    · omega
  have hb := hr.bar c hcB
  rw [← hp, hx] at hb
  injection hb with hb
  refine ⟨hcB, hb, by rw [h.got k hk, decide_eq_false (by omega)], ?_⟩
  rw [hb, h.num]
  split
  · exact .inr rfl
  · exact .inl rfl
theorem CSt.bar (h : CSt B n R E c pos a P) {k : Nat} (hk : k < n) (hp : pos k = E k c) {x : It} (hx : (R k)[pos k]? = some x) (hc : (a.got.set k true).contains false = true) :
    CSt B n R E c (updN pos k (pos k + 1)) ⟨x.n, a.got.set k true, a.held⟩ P := by
  have hlt := (List.getElem?_eq_some_iff.1 hx).1
  obtain ⟨hcB, hxb, -, -⟩ := h.at_bar hk hp hx
  refine ⟨h.n1, h.n8, h.cB, h.B2, h.row, ?_, ?_, ?_, by simp [h.gl], h.hl, ?_, ?_, ?_, ?_⟩
  · intro j hj
    by_cases e : j = k
    · subst e
      rw [updN_same]
      have := h.lo j hj
      omega
    · rw [updN_other _ _ e]
      exact h.lo j hj
  · intro j hj
    by_cases e : j = k
    · subst e
      rw [updN_same]
      omega
    · rw [updN_other _ _ e]
      exact h.hi j hj
  · rw [if_pos ⟨k, hk, by rw [updN_same]; omega⟩, hxb]
    rfl
  · intro j hj
    by_cases e : j = k
    · subst e
      rw [updN_same, decide_eq_true (by omega)]
      show (a.got.set j true)[j]? = _
      rw [List.getElem?_set_self (by rw [h.gl]; exact hj)]
    · rw [updN_other _ _ e]
      show (a.got.set k true)[j]? = _
      rw [List.getElem?_set_ne (fun e2 => e e2.symm)]
      exact h.got j hj
  · intro j hj
    obtain ⟨y, hy1, hy2⟩ := h.held j hj
    refine ⟨y, hy1, ?_⟩
    by_cases e : j = k
    · subst e
      rw [updN_same, hy2, hldP_nil (by omega), hldP_nil (by omega)]
    · rw [updN_other _ _ e]
      exact hy2
  · rw [List.contains_iff_mem] at hc
    obtain ⟨j, hj, hjb⟩ := List.getElem_of_mem hc
    rw [List.length_set, h.gl] at hj
    by_cases e : j = k
    · subst e
      rw [List.getElem_set_self] at hjb
      cases hjb
    · rw [List.getElem_set_ne (fun e2 => e e2.symm)] at hjb
      have := h.got j hj
      rw [List.getElem?_eq_getElem (by rw [h.gl]; exact hj), hjb] at this
      injection this with this
      have := of_decide_eq_false this.symm
      exact ⟨j, hj, by rw [updN_other _ _ e]; omega⟩
  · intro j hj
    rw [h.pas j hj]
    by_cases e : j = k
    · subst e
      rw [updN_same, segP_end (by omega), segP_end (by omega)]
    · rw [updN_other _ _ e]
/-- The barrier is whole. -/
theorem CSt.whole (h : CSt B n R E c pos a P) {k : Nat} (hk : k < n) (hp : pos k = E k c) {x : It} (hx : (R k)[pos k]? = some x) (hc : (a.got.set k true).contains false = false) :
    (∀ j, j < n → j ≠ k → E j c < pos j) ∧ (∀ j, j < n → P j = ((R j).take (E j c)).drop (sgo (E j) c)) ∧ CSt B n R E (c + 1) (fun j => E j c + 1) (newA' n) (fun _ => []) := by
  obtain ⟨hcB, hxb, -, -⟩ := h.at_bar hk hp hx
  have hall : ∀ j, j < n → j ≠ k → E j c < pos j := by
    intro j hj e
    have hng : ¬ (a.got.set k true).contains false = true := by rw [hc]; simp
    rw [List.contains_iff_mem] at hng
    by_cases hle : E j c < pos j
    · exact hle
    · exfalso
      refine hng (List.mem_of_getElem? (i := j) ?_)
      rw [List.getElem?_set_ne (fun e2 => e e2.symm), h.got j hj, decide_eq_false hle]
  refine ⟨hall, ?_, ?_⟩
  · intro j hj
    rw [h.pas j hj]
    by_cases e : j = k
    · subst e
      exact segP_end (by omega)
    · exact segP_end (Nat.le_of_lt (hall j hj e))
  · have hE : ∀ j, j < n → E j c + 1 ≤ E j (c + 1) := fun j hj => (h.row j hj).seg (c + 1) hcB
    refine ⟨h.n1, h.n8, hcB, h.B2, h.row, fun j hj => Nat.le_refl _, fun j hj => (h.row j hj).lt hcB, ?_, by simp [newA'], by simp [newA'], ?_, ?_, ⟨k, hk, hE k hk⟩, fun j hj => (segP_start (r := R j) (e := E j) (c := c + 1)).symm⟩
    · rw [if_neg]
      · rfl
      · rintro ⟨j, hj, h1⟩
        have := hE j hj
        omega
    · intro j hj
      have := hE j hj
      rw [decide_eq_false (by omega)]
      simp [newA', hj]
    · intro j hj
      have := hE j hj
      refine ⟨hZ, by simp [newA', hj], ?_⟩
      rw [hldP_nil (by omega)]
      rfl
end
end Go.Proofs.Ytenpgkkefielfaa
