/-
  Layer 19, plain: the ghost of a sink, act by act.
-/
import Derived.Test.YtenpgkkefielfaaSinkW29
set_option linter.unusedVariables false
set_option linter.unusedSimpArgs false
namespace Go.Proofs.Ytenpgkkefielfaa

/-- What stages are, but for where their rows lie. -/
def PS (l : List Stg) : List (Int × List Res) := l.map (fun x => (x.n, x.l))
def lowB (n : Int) (x : Stg) : Bool := decide (x.n ≤ n)
theorem ps_len {a b : List Stg} (h : PS a = PS b) : a.length = b.length := by
  have := congrArg List.length h
  simpa [PS] using this
theorem ps_flat {a b : List Stg} (h : PS a = PS b) : a.flatMap Stg.l = b.flatMap Stg.l := by
  have e : ∀ l : List Stg, l.flatMap Stg.l = (PS l).flatMap Prod.snd := fun l => by simp [PS, List.flatMap_map]
  rw [e, e, h]
theorem ps_while {n : Int} : ∀ {a b : List Stg}, PS a = PS b → PS (a.dropWhile (lowB n)) = PS (b.dropWhile (lowB n)) ∧ PS (a.takeWhile (lowB n)) = PS (b.takeWhile (lowB n))
  | [], [], _ => ⟨rfl, rfl⟩
  | [], _ :: _, h => by simp [PS] at h
  | _ :: _, [], h => by simp [PS] at h
  | x :: a, y :: b, h => by
    have h1 : (x.n, x.l) = (y.n, y.l) ∧ PS a = PS b := by
      unfold PS at h
      simp only [List.map_cons, List.cons.injEq] at h
      exact h
    have hn : x.n = y.n := congrArg Prod.fst h1.1
    have e : lowB n x = lowB n y := by unfold lowB; rw [hn]
    obtain ⟨i1, i2⟩ := ps_while (n := n) h1.2
    cases hy : lowB n y with
    | true =>
      rw [List.dropWhile_cons_of_pos (by rw [e]; exact hy), List.dropWhile_cons_of_pos hy, List.takeWhile_cons_of_pos (by rw [e]; exact hy), List.takeWhile_cons_of_pos hy]
      refine ⟨i1, ?_⟩
      unfold PS at i2 ⊢
      rw [List.map_cons, List.map_cons, i2, h1.1]
    | false =>
      rw [List.dropWhile_cons_of_neg (by rw [e, hy]; simp), List.dropWhile_cons_of_neg (by rw [hy]; simp), List.takeWhile_cons_of_neg (by rw [e, hy]; simp), List.takeWhile_cons_of_neg (by rw [hy]; simp)]
      exact ⟨h, rfl⟩
theorem while_filter {n : Int} : ∀ {st : List Stg}, st.Pairwise (fun a b => a.n < b.n) → st.dropWhile (lowB n) = keepSt st n ∧ st.takeWhile (lowB n) = st.filter (fun x => decide (x.n ≤ n))
  | [], _ => ⟨rfl, rfl⟩
  | x :: st, h => by
    obtain ⟨h1, h2⟩ := List.pairwise_cons.1 h
    obtain ⟨i1, i2⟩ := while_filter (n := n) h2
    by_cases hx : x.n ≤ n
    · have hp : lowB n x = true := by unfold lowB; simpa using hx
      rw [List.dropWhile_cons_of_pos hp, List.takeWhile_cons_of_pos hp, i1, i2]
      unfold keepSt
      rw [List.filter_cons, if_neg (by simp; omega), List.filter_cons, if_pos (by simpa using hx)]
      exact ⟨rfl, rfl⟩
    · have hp : ¬ lowB n x = true := by unfold lowB; simpa using hx
      rw [List.dropWhile_cons_of_neg hp, List.takeWhile_cons_of_neg hp]
      unfold keepSt
      constructor
      · symm
        rw [List.filter_eq_self]
        intro y hy
        rcases List.mem_cons.1 hy with rfl | hy
        · simp; omega
        · have := h1 y hy; simp; omega
      · symm
        rw [List.filter_eq_nil_iff]
        intro y hy
        rcases List.mem_cons.1 hy with rfl | hy
        · simpa using hx
        · have := h1 y hy; simp; omega
/-- What any call keeps, that told OK. -/
structure Grew (k k' : Snk) : Prop where
  right : k'.right = true
  last : k.last ≤ k'.last
  len : k.out.length ≤ k'.out.length
  pre : k'.out.take k.out.length = k.out
theorem once_add {k : Snk} {r : Res} (h : addE k r = 0) : Grew k (addK k r) ∧ addK k r = ⟨k.op ++ [r], k.st, k.last, k.out⟩ := by
  have e : addK k r = ⟨k.op ++ [r], k.st, k.last, k.out⟩ := by unfold addK; rw [if_pos h]
  refine ⟨?_, e⟩
  rw [e]
  unfold addE Snk.right at h
  split at h
  · rename_i hr
    rw [Bool.and_eq_true] at hr
    split at h
    · cases h
    · exact ⟨add_right hr.1 hr.2 (by omega), Int.le_refl _, Nat.le_refl _, List.take_length⟩
  · cases h
theorem once_stg {k : Snk} {n : Int} {vo : Value} (h : stgE k n = 0) : Grew k (stgK k n vo) ∧ stgK k n vo = ⟨[], k.st ++ [⟨n, vo, k.op⟩], k.last, k.out⟩ := by
  have e : stgK k n vo = ⟨[], k.st ++ [⟨n, vo, k.op⟩], k.last, k.out⟩ := by unfold stgK; rw [if_pos h]
  refine ⟨?_, e⟩
  rw [e]
  unfold stgE Snk.right at h
  split at h
  · rename_i hr
    rw [Bool.and_eq_true, decide_eq_true_eq] at hr
    split at h
    · cases h
    · rename_i h3
      split at h
      · cases h
      · rename_i h4
        exact ⟨stg_right hr.1 hr.2 (by unfold lastN at h3; omega) (by omega) vo, Int.le_refl _, Nat.le_refl _, List.take_length⟩
  · cases h
theorem once_abo {k : Snk} (h : aboE k = 0) : Grew k (aboK k) ∧ aboK k = ⟨[], [], k.last, k.out⟩ := by
  have hr : k.right = true := by
    unfold aboE at h
    split at h
    · assumption
    · cases h
  have e : aboK k = ⟨[], [], k.last, k.out⟩ := by unfold aboK; rw [if_pos hr]
  refine ⟨?_, e⟩
  rw [e]
  exact ⟨abo_right hr, Int.le_refl _, Nat.le_refl _, List.take_length⟩
theorem once_com {k : Snk} {n : Int} (h : comE k n = 0) : Grew k (comK k n) ∧ (comK k n).op = k.op ∧ (comK k n).st = k.st.dropWhile (lowB n) ∧ (comK k n).out = k.out ++ (k.st.takeWhile (lowB n)).flatMap Stg.l := by
  obtain ⟨hr, h2⟩ := comE_zero h
  have hp := (right_iff _ _ _ _).1 hr
  obtain ⟨h0, h1, h3, h4, h5, h6, h7, h8⟩ := hp
  obtain ⟨w1, w2⟩ := while_filter (n := n) h8
  unfold comK
  rw [if_pos hr]
  by_cases hl : n ≤ k.last
  · rw [if_pos hl]
    have e1 : k.st.filter (fun x => decide (x.n ≤ n)) = [] := by
      rw [List.filter_eq_nil_iff]
      intro x hx
      have := (h7 x hx).1
      simp; omega
    have e2 : keepSt k.st n = k.st := by
      unfold keepSt
      rw [List.filter_eq_self]
      intro x hx
      have := (h7 x hx).1
      simp; omega
    exact ⟨⟨hr, Int.le_refl _, Nat.le_refl _, List.take_length⟩, rfl, by rw [w1, e2], by rw [w2, e1]; simp⟩
  · rw [if_neg hl]
    have ha : k.has n = true := h2.resolve_left hl
    rw [if_pos ha]
    refine ⟨⟨com_right hr ha, by simp only; omega, ?_, ?_⟩, rfl, w1.symm, by rw [w2]; rfl⟩
    · simp only [gone, List.length_append]; omega
    · simp only [gone, List.take_left]
theorem zK_right : zK.right = true := by
  unfold Snk.right zK
  rw [right_iff]
  exact ⟨by decide, by decide, by simp, by simp, by simp, by simp, by simp, by simp⟩
end Go.Proofs.Ytenpgkkefielfaa
