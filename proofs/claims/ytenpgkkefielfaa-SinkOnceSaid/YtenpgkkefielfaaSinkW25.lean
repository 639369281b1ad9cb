/-
  Layer 19, plain: what keeps a sink right; commits one behind the other.
-/
import Derived.Test.YtenpgkkefielfaaSinkW23
set_option linter.unusedVariables false
set_option linter.unusedSimpArgs false
namespace Go.Proofs.Ytenpgkkefielfaa

theorem allB_iff (l : List Res) : allB l = true ↔ ∀ x ∈ l, mayB x = true := by
  unfold allB
  simp only [List.all_eq_true, List.mem_range]
  constructor
  · intro h x hx
    obtain ⟨j, hj, rfl⟩ := List.mem_iff_getElem.1 hx
    have := h j hj
    unfold resAt at this
    rw [List.getElem!_eq_getElem?_getD, List.getElem?_eq_getElem hj] at this
    exact this
  · intro h j hj
    unfold resAt
    rw [List.getElem!_eq_getElem?_getD, List.getElem?_eq_getElem hj]
    exact h _ (List.getElem_mem hj)
def RightP (op : List Res) (st : List Stg) (last : Int) (out : List Res) : Prop :=
  0 ≤ last ∧ last ≤ 1073741824 ∧ st.length ≤ 8 ∧ op.length + out.length + (st.flatMap Stg.l).length ≤ 20000 ∧ (∀ x ∈ op, mayB x = true) ∧ (∀ x ∈ out, mayB x = true) ∧
    (∀ s ∈ st, last < s.n ∧ s.n ≤ 1073741824 ∧ ∀ x ∈ s.l, mayB x = true) ∧ st.Pairwise (fun a b => a.n < b.n)
theorem right_iff (op : List Res) (st : List Stg) (last : Int) (out : List Res) : rightS op st last out = true ↔ RightP op st last out := by
  constructor
  · intro h
    have ha := asc_of h
    have hc := (room_of h).2
    have e := (cnt_lens hc).2.2.2
    rw [e, sum_take _ _ _ (Nat.le_refl _), List.take_length] at hc
    unfold rightS headS at h
    simp only [Bool.and_eq_true, decide_eq_true_eq, List.all_eq_true, List.mem_range] at h
    obtain ⟨⟨h1, h2, h3, h4, h5, h6⟩, h7⟩ := h
    refine ⟨h1, h2, h3, by omega, (allB_iff _).1 h5, (allB_iff _).1 h6, ?_, ?_⟩
    · intro s hs
      obtain ⟨j, hj, rfl⟩ := List.mem_iff_getElem.1 hs
      have := h7 j hj
      unfold stAt at this
      rw [List.getElem!_eq_getElem?_getD, List.getElem?_eq_getElem hj] at this
      simp only [Bool.and_eq_true, decide_eq_true_eq, Option.getD_some] at this
      have h := ha j _ (List.getElem?_eq_getElem hj)
      exact ⟨h.1, h.2.1, (allB_iff _).1 this.2.2⟩
    · rw [List.pairwise_iff_getElem]
      intro i j hi hj hij
      exact (ha j _ (List.getElem?_eq_getElem hj)).2.2 i _ hij (List.getElem?_eq_getElem hi)
  · rintro ⟨h1, h2, h3, h4, h5, h6, h7, h8⟩
    unfold rightS headS
    simp only [Bool.and_eq_true, decide_eq_true_eq, List.all_eq_true, List.mem_range]
    refine ⟨⟨h1, h2, h3, ?_, (allB_iff _).2 h5, (allB_iff _).2 h6⟩, ?_⟩
    · have hs : sumTo st ((op.length : Int) + out.length) st.length ≤ 20000 := by
        rw [sum_take _ _ _ (Nat.le_refl _), List.take_length]
        omega
      unfold cntS
      rw [(cnt_sum st op.length out.length st.length).2 hs]
      exact hs
    · intro k hk
      have hx := h7 _ (List.getElem_mem hk)
      unfold stAt
      rw [List.getElem!_eq_getElem?_getD, List.getElem?_eq_getElem hk]
      simp only [Bool.and_eq_true, decide_eq_true_eq, Option.getD_some]
      refine ⟨?_, hx.2.1, (allB_iff _).2 hx.2.2⟩
      cases k with
      | zero => exact hx.1
      | succ k =>
        rw [prevS_succ (List.getElem?_eq_getElem (by omega))]
        rw [List.pairwise_iff_getElem] at h8
        exact h8 k (k + 1) (by omega) hk (by omega)
theorem filter_two (n : Int) : ∀ st : List Stg, ((st.filter (fun x => decide (x.n ≤ n))).flatMap Stg.l).length + ((st.filter (fun x => decide (n < x.n))).flatMap Stg.l).length = (st.flatMap Stg.l).length
  | [] => rfl
  | a :: l => by
    have := filter_two n l
    by_cases h : a.n ≤ n
    · rw [List.filter_cons, if_pos (by simpa using h), List.filter_cons, if_neg (by simp; omega)]
      simp only [List.flatMap_cons, List.length_append]; omega
    · rw [List.filter_cons, if_neg (by simpa using h), List.filter_cons, if_pos (by simp; omega)]
      simp only [List.flatMap_cons, List.length_append]; omega
theorem com_right {op : List Res} {st : List Stg} {last : Int} {out : List Res} (h : rightS op st last out = true) {n : Int} (ha : st.any (fun x => x.n == n) = true) : rightS op (keepSt st n) n (gone out st n) = true := by
  rw [right_iff] at h ⊢
  obtain ⟨h1, h2, h3, h4, h5, h6, h7, h8⟩ := h
  obtain ⟨k, x, hx, rfl⟩ := any_at ha
  have hxm := h7 x (List.mem_of_getElem? hx)
  refine ⟨by omega, hxm.2.1, Nat.le_trans (keepSt_len _ _) h3, ?_, h5, ?_, ?_, ?_⟩
  · have := filter_two x.n st
    unfold keepSt gone
    rw [List.length_append]
    omega
  · intro y hy
    unfold gone at hy
    rcases List.mem_append.1 hy with h | h
    · exact h6 y h
    · obtain ⟨z, hz, hyz⟩ := List.mem_flatMap.1 h
      exact (h7 z (List.mem_filter.1 hz).1).2.2 y hyz
  · intro s hs
    have hs' := List.mem_filter.1 hs
    have := h7 s hs'.1
    exact ⟨by simpa using hs'.2, this.2⟩
  · exact List.Pairwise.sublist List.filter_sublist h8
theorem abo_right {op : List Res} {st : List Stg} {last : Int} {out : List Res} (h : rightS op st last out = true) : rightS [] [] last out = true := by
  rw [right_iff] at h ⊢
  obtain ⟨h1, h2, h3, h4, h5, h6, h7, h8⟩ := h
  exact ⟨h1, h2, by simp, by simp; omega, by simp, h6, by simp, by simp⟩
theorem add_right {op : List Res} {st : List Stg} {last : Int} {out : List Res} (h : rightS op st last out = true) {r : Res} (hr : mayB r = true) (hc : cntS op st out < 20000) : rightS (op ++ [r]) st last out = true := by
  have e := (cnt_lens (op := op) (st := st) (out := out) (by omega)).2.2.2
  rw [e, sum_take _ _ _ (Nat.le_refl _), List.take_length] at hc
  rw [right_iff] at h ⊢
  obtain ⟨h1, h2, h3, h4, h5, h6, h7, h8⟩ := h
  refine ⟨h1, h2, h3, by simp only [List.length_append, List.length_cons, List.length_nil]; omega, ?_, h6, h7, h8⟩
  intro x hx
  rcases List.mem_append.1 hx with h | h
  · exact h5 x h
  · simp at h; subst h; exact hr
theorem stg_right {op : List Res} {st : List Stg} {last : Int} {out : List Res} (h : rightS op st last out = true) {n : Int} (h2 : n ≤ 1073741824) (h3 : prevS last st st.length < n) (h4 : st.length < 8) (vo : Value) : rightS [] (st ++ [⟨n, vo, op⟩]) last out = true := by
  have ha := asc_of h
  rw [right_iff] at h ⊢
  obtain ⟨k1, k2, k3, k4, k5, k6, k7, k8⟩ := h
  have hall : ∀ s ∈ st, s.n < n := by
    intro s hs
    obtain ⟨j, hj, rfl⟩ := List.mem_iff_getElem.1 hs
    obtain ⟨m, hm⟩ : ∃ m, st.length = m + 1 := ⟨st.length - 1, by omega⟩
    rw [hm, prevS_succ (List.getElem?_eq_getElem (by omega))] at h3
    by_cases hjm : j = m
    · subst hjm; exact h3
    · have := (ha m _ (List.getElem?_eq_getElem (by omega))).2.2 j _ (by omega) (List.getElem?_eq_getElem hj)
      omega
  have hlast : last < n := by
    cases hs : st with
    | nil => rw [hs] at h3; exact h3
    | cons a l =>
      have h1 := (k7 a (by rw [hs]; simp)).1
      have := hall a (by rw [hs]; simp)
      omega
  refine ⟨k1, k2, by simp; omega, by simp only [List.flatMap_append, List.length_append, List.flatMap_cons, List.flatMap_nil, List.append_nil, List.length_nil]; omega, by simp, k6, ?_, ?_⟩
  · intro s hs
    rcases List.mem_append.1 hs with h | h
    · exact k7 s h
    · simp at h; subst h; exact ⟨hlast, h2, k5⟩
  · rw [List.pairwise_append]
    exact ⟨k8, by simp, fun a hA b hB => by simp at hB; subst hB; exact hall a hA⟩
end Go.Proofs.Ytenpgkkefielfaa
