/-
  PLAIN: what Offer makes of an aligner that may be, may be; the room it leaves.
-/
import Derived.Test.YtenpgkkefielfaaAlignW19
set_option linter.unusedVariables false
set_option linter.unusedSimpArgs false
namespace Go.Proofs.Ytenpgkkefielfaa

theorem get_bang {α : Type} [Inhabited α] {l : List α} {k : Nat} {x : α} (h : l[k]? = some x) : l[k]! = x := by rw [List.getElem!_eq_getElem?_getD, h, Option.getD_some]
theorem allI_iff (l : List It) : allI l = true ↔ ∀ x ∈ l, rightI x = true := by
  unfold allI iAt
  simp only [List.all_eq_true, List.mem_range]
  constructor
  · intro h x hx
    obtain ⟨j, hj, rfl⟩ := List.mem_iff_getElem.1 hx
    have := h j hj
    rw [get_bang (List.getElem?_eq_getElem hj)] at this
    exact this
  · intro h j hj
    rw [get_bang (List.getElem?_eq_getElem hj)]
    exact h _ (List.getElem_mem hj)
structure RightP (a : Aln) : Prop where
  l1 : 1 ≤ a.got.length
  l8 : a.got.length ≤ 8
  lh : a.held.length = a.got.length
  n0 : 0 ≤ a.n
  n1 : a.n ≤ 1073741824
  ct : a.got.contains true = decide (0 < a.n)
  cf : a.got.contains false = true
  hl : ∀ (k : Nat) (x : Hl), a.held[k]? = some x → x.l.length ≤ 16 ∧ (x.l = [] ∨ a.got[k]! = true) ∧ ∀ y ∈ x.l, rightI y = true
theorem right_P (a : Aln) : rightA a = true ↔ RightP a := by
  unfold rightA
  simp only [Bool.and_eq_true, decide_eq_true_eq, List.all_eq_true, List.mem_range, beq_iff_eq]
  constructor
  · rintro ⟨h1, h2, h3, h4, h5, h6, h7, h8⟩
    refine ⟨h1, h2, h3, h4, h5, h6, h7, fun k x hx => ?_⟩
    have := h8 k (List.getElem?_eq_some_iff.1 hx).1
    unfold hAt at this
    rw [get_bang hx] at this
    simp only [Bool.and_eq_true, decide_eq_true_eq, Bool.or_eq_true, List.length_eq_zero_iff] at this
    exact ⟨this.1, this.2.1, (allI_iff _).1 this.2.2⟩
  · rintro ⟨h1, h2, h3, h4, h5, h6, h7, h8⟩
    refine ⟨h1, h2, h3, h4, h5, h6, h7, fun k hk => ?_⟩
    obtain ⟨x, hx⟩ : ∃ x, a.held[k]? = some x := ⟨_, List.getElem?_eq_getElem hk⟩
    have := h8 k x hx
    unfold hAt
    rw [get_bang hx]
    simp only [Bool.and_eq_true, decide_eq_true_eq, Bool.or_eq_true, List.length_eq_zero_iff]
    exact ⟨this.1, this.2.1, (allI_iff _).2 this.2.2⟩
theorem new_right (N : Nat) (h1 : 1 ≤ N) (h8 : N ≤ 8) : rightA (newA' N) = true := by
  rw [right_P]
  refine ⟨by simpa [newA'] using h1, by simpa [newA'] using h8, by simp [newA'], by simp [newA'], by simp [newA'], ?_, ?_, fun k x hx => ?_⟩
  · show (List.replicate N false).contains true = decide ((0 : Int) < 0)
    rw [List.contains_replicate]
    simp
  · show (List.replicate N false).contains false = true
    rw [List.contains_replicate]
    simp; omega
  · obtain rfl := (List.mem_replicate.1 (List.mem_of_getElem? hx)).2
    simp [hZ]
theorem bar_n {it : It} (h : rightI it = true) (hk : it.kind = 4) : 1 ≤ it.n ∧ it.n ≤ 1073741824 := by
  unfold rightI bareB at h
  rw [hk] at h
  simp at h
  exact h.1
theorem got_set (l : List Bool) (N k : Nat) (hN : N < l.length) : (l.set N true)[k]! = (decide (k = N) || l[k]!) := by
  simp only [List.getElem!_eq_getElem?_getD, List.getElem?_set]
  by_cases h : N = k
  · subst h; rw [if_pos rfl, if_pos hN]; simp
  · rw [if_neg h, show decide (k = N) = false by simp; omega, Bool.false_or]
/-- What an offer that is not refused does to an aligner that may be. -/
structure OkP (a : Aln) (i : Int) (r : Ofr) : Prop where
  right : rightA r.a = true
  len : r.a.got.length = a.got.length
  held : a.got[i.toNat]! = true → r.pass = false ∧ r.done = 0 ∧ 1 ≤ roomA a i ∧ roomA r.a i = roomA a i - 1
theorem ofer_cases (a : Aln) (i : Int) (it : It) (hr : rightA a = true) (h0 : 0 ≤ i) (h1 : i < a.got.length) :
    ((ofer a i it).er = 0 ∧ OkP a i (ofer a i it)) ∨ ((ofer a i it).er = 3 ∧ a.got[i.toNat]! = true ∧ roomA a i = 0) ∨ (ofer a i it).er = 1 ∨ (ofer a i it).er = 190 := by
  have hP := (right_P a).1 hr
  obtain ⟨N, rfl⟩ : ∃ N : Nat, i = N := ⟨i.toNat, by omega⟩
  have hN : N < a.got.length := by omega
  obtain ⟨x, hx⟩ : ∃ x, a.held[N]? = some x := ⟨_, List.getElem?_eq_getElem (by rw [hP.lh]; omega)⟩
  have hroom : roomA a (N : Int) = 16 - (x.l.length : Int) := by
    unfold roomA
    rw [if_pos ⟨hr, h0, h1⟩, Int.toNat_natCast, get_bang hx]
  have hxl := hP.hl N x hx
  unfold ofer
  simp only [Int.toNat_natCast]
  by_cases h : (hasA a (N : Int) && rightI it) = true
  · rw [if_pos h]
    simp only [Bool.and_eq_true] at h
    by_cases hg : a.got[N]! = true
    · rw [if_pos hg, get_bang hx]
      by_cases h16 : 16 ≤ x.l.length
      · rw [if_pos h16]
        exact .inr (.inl ⟨rfl, hg, by rw [hroom]; have := hxl.1; omega⟩)
      · rw [if_neg h16]
        have hrr : rightA { a with held := a.held.set N ⟨.slice none 0 0, x.l ++ [it]⟩ } = true := by
          rw [right_P]
          refine ⟨hP.l1, hP.l8, by simpa using hP.lh, hP.n0, hP.n1, hP.ct, hP.cf, fun k y hy => ?_⟩
          simp only [List.getElem?_set] at hy
          by_cases hk : N = k
          · subst hk
            rw [if_pos rfl, if_pos (by rw [hP.lh]; omega)] at hy
            injection hy with hy
            subst hy
            refine ⟨by simp; omega, .inr hg, fun y hy => ?_⟩
            simp only [List.mem_append, List.mem_singleton] at hy
            rcases hy with hy | rfl
            · exact hxl.2.2 y hy
            · exact h.2
          · rw [if_neg hk] at hy
            exact hP.hl k y hy
        refine .inl ⟨rfl, hrr, rfl, fun _ => ⟨rfl, rfl, by rw [hroom]; omega, ?_⟩⟩
        · have hr2 : roomA { a with held := a.held.set N ⟨.slice none 0 0, x.l ++ [it]⟩ } (N : Int) = 16 - ((x.l ++ [it]).length : Int) := by
            unfold roomA
            rw [if_pos ⟨hrr, h0, h1⟩]
            simp only [Int.toNat_natCast]
            rw [get_bang (x := ⟨.slice none 0 0, x.l ++ [it]⟩) (by rw [List.getElem?_set, if_pos rfl, if_pos (by rw [hP.lh]; omega)])]
          rw [hr2, hroom, List.length_append]
          simp only [List.length_singleton]
          omega
    · rw [if_neg hg]
      by_cases hk : it.kind = 4
      · rw [if_pos hk]
        by_cases hn : a.n ≠ 0 ∧ a.n ≠ it.n
        · rw [if_pos hn]; exact .inr (.inr (.inr rfl))
        · rw [if_neg hn]
          have hb := bar_n h.2 hk
          by_cases hc : (a.got.set N true).contains false = true
          · rw [if_pos hc]
            refine .inl ⟨rfl, ?_, by simp, fun e => absurd e hg⟩
            rw [right_P]
            refine ⟨by simpa using hP.l1, by simpa using hP.l8, by simpa using hP.lh, by simp only; omega, hb.2, ?_, hc, fun k y hy => ?_⟩
            · show (a.got.set N true).contains true = decide (0 < it.n)
              rw [decide_eq_true (by omega : 0 < it.n), List.contains_iff_mem]
              exact List.mem_iff_getElem.2 ⟨N, by simpa using hN, by simp⟩
            · have := hP.hl k y hy
              refine ⟨this.1, ?_, this.2.2⟩
              rcases this.2.1 with h | h
              · exact .inl h
              · exact .inr (by show (a.got.set N true)[k]! = true; rw [got_set _ _ _ hN, h, Bool.or_true])
          · rw [if_neg hc]
            exact .inl ⟨rfl, new_right _ hP.l1 hP.l8, by simp [newA'], fun e => absurd e hg⟩
      · rw [if_neg hk]
        exact .inl ⟨rfl, hr, rfl, fun e => absurd e hg⟩
  · rw [if_neg h]; exact .inr (.inr (.inl rfl))
theorem room_in (a : Aln) (i : Int) : 0 ≤ roomA a i ∧ roomA a i ≤ 16 := by
  by_cases h : rightA a = true ∧ 0 ≤ i ∧ i < a.got.length
  · have hP := (right_P a).1 h.1
    obtain ⟨x, hx⟩ : ∃ x, a.held[i.toNat]? = some x := ⟨_, List.getElem?_eq_getElem (by rw [hP.lh]; omega)⟩
    have := (hP.hl _ x hx).1
    unfold roomA
    rw [if_pos h, get_bang hx]
    omega
  · unfold roomA
    rw [if_neg h]
    omega
end Go.Proofs.Ytenpgkkefielfaa
