/-
  Layer 19: Commit told as a plain function; both sides say the same.
-/
import Derived.Test.YtenpgkkefielfaaSinkW22
set_option linter.unusedVariables false
set_option linter.unusedSimpArgs false
namespace Go.Proofs.Ytenpgkkefielfaa
open Go.RowKit

theorem asc_of {op : List Res} {st : List Stg} {last : Int} {out : List Res} (h : rightS op st last out = true) : ∀ (k : Nat) (x : Stg), st[k]? = some x → last < x.n ∧ x.n ≤ 1073741824 ∧ ∀ (j : Nat) (y : Stg), j < k → st[j]? = some y → y.n < x.n := by
  unfold rightS at h
  rw [Bool.and_eq_true] at h
  have h2 := h.2
  simp only [List.all_eq_true, List.mem_range] at h2
  have hs : ∀ (k : Nat) (x : Stg), st[k]? = some x → prevS last st k < x.n ∧ x.n ≤ 1073741824 := by
    intro k x hx
    have hk := (List.getElem?_eq_some_iff.1 hx).1
    have := h2 k hk
    unfold stAt at this
    rw [List.getElem!_eq_getElem?_getD, hx] at this
    simp only [Bool.and_eq_true, decide_eq_true_eq, Option.getD_some] at this
    exact ⟨this.1, this.2.1⟩
  intro k
  induction k with
  | zero =>
    intro x hx
    have := hs 0 x hx
    exact ⟨this.1, this.2, fun j y hj => by omega⟩
  | succ k ih =>
    intro x hx
    have hk := (List.getElem?_eq_some_iff.1 hx).1
    obtain ⟨z, hz⟩ : ∃ z, st[k]? = some z := ⟨_, List.getElem?_eq_getElem (by omega)⟩
    have h1 := hs (k + 1) x hx
    rw [prevS_succ hz] at h1
    obtain ⟨a, _, c⟩ := ih z hz
    refine ⟨by omega, h1.2, fun j y hj hy => ?_⟩
    by_cases hjk : j < k
    · have := c j y hjk hy; omega
    · obtain rfl : j = k := by omega
      rw [hz] at hy; injection hy with hy; subst hy; exact h1.1
theorem pos_split {op : List Res} {st : List Stg} {last : Int} {out : List Res} (h : rightS op st last out = true) {k : Nat} {x : Stg} (hx : st[k]? = some x) :
    posN st x.n = k + 1 ∧ st.drop (k + 1) = keepSt st x.n ∧ st.take (k + 1) = st.filter (fun y => decide (y.n ≤ x.n)) := by
  have ha := asc_of h
  have hlo : ∀ y ∈ st.take (k + 1), y.n ≤ x.n := by
    intro y hy
    obtain ⟨j, hj, rfl⟩ := List.mem_iff_getElem.1 hy
    rw [List.getElem_take]
    have hj2 := hj
    rw [List.length_take] at hj2
    by_cases hjk : j < k
    · have := (ha k x hx).2.2 j _ hjk (List.getElem?_eq_getElem (by omega)); omega
    · obtain rfl : j = k := by omega
      rw [List.getElem?_eq_getElem (by omega)] at hx
      injection hx with hx
      rw [hx]; omega
  have hhi : ∀ y ∈ st.drop (k + 1), x.n < y.n := by
    intro y hy
    obtain ⟨j, hj, rfl⟩ := List.mem_iff_getElem.1 hy
    rw [List.length_drop] at hj
    have := (ha (k + 1 + j) st[k + 1 + j] (List.getElem?_eq_getElem (by omega))).2.2 k x (by omega) hx
    rw [List.getElem_drop]
    exact this
  refine ⟨posN_eq (fun j y hj hy => (ha k x hx).2.2 j y hj hy) hx (by omega), ?_, ?_⟩
  · unfold keepSt
    conv => rhs; rw [← List.take_append_drop (k + 1) st]
    rw [List.filter_append, List.filter_eq_nil_iff.2 (fun y hy => by have := hlo y hy; simp; omega), List.filter_eq_self.2 (fun y hy => by have := hhi y hy; simpa using this), List.nil_append]
  · conv => rhs; rw [← List.take_append_drop (k + 1) st]
    rw [List.filter_append, List.filter_eq_self.2 (fun y hy => by have := hlo y hy; simpa using this), List.filter_eq_nil_iff.2 (fun y hy => by have := hhi y hy; simp; omega), List.append_nil]
theorem any_at {st : List Stg} {n : Int} (h : st.any (fun x => x.n == n) = true) : ∃ (k : Nat) (x : Stg), st[k]? = some x ∧ x.n = n := by
  obtain ⟨x, hx, he⟩ := List.any_eq_true.1 h
  obtain ⟨j, hj, rfl⟩ := List.mem_iff_getElem.1 hx
  exact ⟨j, _, List.getElem?_eq_getElem hj, by simpa using he⟩
theorem com_split {op : List Res} {st : List Stg} {last : Int} {out : List Res} (h : rightS op st last out = true) {n : Int} (ha : st.any (fun x => x.n == n) = true) :
    st.drop (posN st n) = keepSt st n ∧ out ++ (st.take (posN st n)).flatMap Stg.l = gone out st n := by
  obtain ⟨k, x, hx, rfl⟩ := any_at ha
  obtain ⟨h1, h2, h3⟩ := pos_split h hx
  rw [h1]
  exact ⟨h2, by unfold gone; rw [h3]⟩
def Snk.has (k : Snk) (n : Int) : Bool := k.st.any (fun x => x.n == n)
def comE (k : Snk) (n : Int) : Int := if k.right then (if n ≤ k.last then 0 else if k.has n then 0 else 190) else 1
def comK (k : Snk) (n : Int) : Snk := if k.right then (if n ≤ k.last then k else if k.has n then ⟨k.op, keepSt k.st n, n, gone k.out k.st n⟩ else zK) else zK
def ComTo (k : Snk) (n : Int) (w : World) (e : Ending) (w' : World) : Prop := (∃ v', e = .returned (.tuple #[v', .int .i64 (comE k n)]) ∧ KAt w' v' (comK k n)) ∧ Below w.heap.size w w'
theorem scom_all (k : Snk) (n : Int) (hn : wfL n) (v : Value) (w : World) (hv : KAt w v k) : Calls Try.prog 38 #[v, .int .i64 n] w (ComTo k n w) := by
  unfold ComTo comK comE Snk.right Snk.has
  cases hr : rightS k.op k.st k.last k.out with
  | false =>
    refine (scommit_no _ _ _ _ n hn v w hv hr).mono ?_
    rintro e w' ⟨rfl, hb⟩
    exact ⟨⟨_, rfl, zK_at _⟩, hb⟩
  | true =>
  by_cases h2 : n ≤ k.last
  · refine (scommit_same _ _ _ _ n hn v w hv hr h2).mono ?_
    rintro e w' ⟨⟨v', rfl, h, -⟩, hb⟩
    simp only [if_true, if_pos h2]
    exact ⟨⟨_, rfl, h⟩, hb⟩
  · cases ha : k.st.any (fun x => x.n == n) with
    | false =>
      refine (scommit_gone _ _ _ _ n hn v w hv hr (by omega) ha).mono ?_
      rintro e w' ⟨rfl, hb⟩
      simp only [if_true, if_neg h2, Bool.false_eq_true, if_false]
      exact ⟨⟨_, rfl, zK_at _⟩, hb⟩
    | true =>
      refine (scommit_yes _ _ _ _ n hn v w hv hr (by omega) ha).mono ?_
      rintro e w' ⟨⟨v', rfl, h, -⟩, hb⟩
      rw [(com_split hr ha).1, (com_split hr ha).2] at h
      simp only [if_true, if_neg h2]
      exact ⟨⟨_, rfl, h⟩, hb⟩
theorem rcom_all (k : Snk) (n : Int) (hn : wfL n) (v : Value) (w : World) (hv : KAt w v k) : Calls Try.prog 41 #[v, .int .i64 n] w (ComTo k n w) := by
  unfold ComTo comK comE Snk.right Snk.has
  cases hr : rightS k.op k.st k.last k.out with
  | false =>
    refine (rcommit_no _ _ _ _ n hn v w hv hr).mono ?_
    rintro e w' ⟨rfl, hb⟩
    exact ⟨⟨_, rfl, zK_at _⟩, hb⟩
  | true =>
  by_cases h2 : n ≤ k.last
  · refine (rcommit_same _ _ _ _ n hn v w hv hr h2).mono ?_
    rintro e w' ⟨⟨v', rfl, h⟩, hb⟩
    simp only [if_true, if_pos h2]
    exact ⟨⟨_, rfl, h⟩, hb⟩
  · refine (rcommit_big _ _ _ _ n hn v w hv hr (by omega)).mono ?_
    rintro e w' ⟨⟨h1, h3⟩, hb⟩
    cases ha : k.st.any (fun x => x.n == n) with
    | false =>
      obtain rfl := h3 ha
      simp only [if_true, if_neg h2, Bool.false_eq_true, if_false]
      exact ⟨⟨_, rfl, zK_at _⟩, hb⟩
    | true =>
      obtain ⟨v', rfl, h⟩ := h1 ha
      simp only [if_true, if_neg h2]
      exact ⟨⟨_, rfl, h⟩, hb⟩
end Go.Proofs.Ytenpgkkefielfaa
