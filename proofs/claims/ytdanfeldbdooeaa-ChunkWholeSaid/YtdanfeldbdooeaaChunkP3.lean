/-
  PLAIN: what the reference's Take makes of chunks that came.
-/
import Derived.Test.YtdanfeldbdooeaaChunkP2
import Derived.Test.YtdanfeldbdooeaaChunkW12
set_option linter.unusedVariables false
set_option linter.unusedSimpArgs false
namespace Go.Proofs.Ytdanfeldbdooeaa
open Go.RowKit

theorem atG_some {l : List Ck} {no : Int} {x : Ck} (h : atG l no = (x, true)) : getC l no = some x := by
  unfold atG at h
  cases hg : getC l no with
  | none => rw [hg] at h; simp at h
  | some y => rw [hg] at h; simp at h; rw [h]
theorem atG_none {l : List Ck} {no : Int} {x : Ck} (h : atG l no = (x, false)) : getC l no = none := by
  unfold atG at h
  cases hg : getC l no with
  | none => rfl
  | some y => rw [hg] at h; simp at h
theorem cks_mem {g o : Int} {l : List Ck} (h : cksB g o l = true) {x : Ck} (hx : x ∈ l) : mayB x = true ∧ x.g = g ∧ x.of_ = o := by
  obtain ⟨k, hk⟩ := List.mem_iff_getElem?.1 hx
  have := cks_at h (List.getElem?_eq_some_iff.1 hk).1
  unfold ckAt at this
  rw [ckAt_get hk] at this
  simp only [Bool.and_eq_true, decide_eq_true_eq] at this
  exact ⟨this.1, this.2.1, this.2.2.1⟩
theorem may_of {c : Ck} (h : mayB c = true) : 1 ≤ c.of_ ∧ c.of_ ≤ 512 ∧ 0 ≤ c.no ∧ c.no < c.of_ := by
  unfold mayB at h
  simp only [Bool.and_eq_true, decide_eq_true_eq] at h
  exact ⟨h.2.1, h.2.2.1, h.2.2.2.1, h.2.2.2.2.1⟩
/-- Of a number that came just the bytes can be others. -/
theorem same_b {g o : Int} {l : List Ck} {c x : Ck} (hr : rightG g o l = true) (hf : fitB g o c = true) (hx : getC l c.no = some x) : ckEq x c = (x.b.toList == c.b.toList) := by
  unfold rightG at hr
  simp only [Bool.and_eq_true] at hr
  have hm := List.mem_of_find?_eq_some hx
  have hn := List.find?_some hx
  simp at hn
  obtain ⟨h1, h2, h3⟩ := cks_mem hr.2 hm
  have h4 := may_of h1
  unfold fitB at hf
  simp only [Bool.and_eq_true, Bool.or_eq_true, decide_eq_true_eq] at hf
  have h5 : x.of_ = c.of_ := by rcases hf.2.2 with h | h <;> omega
  have h6 : x.g = c.g := by omega
  unfold ckEq
  rw [h5, h6, hn]
  simp
/-- What is laid out below k. -/
def outK (l : List Ck) (c : Ck) : Nat → List Ck
  | 0 => []
  | k + 1 => outK l c k ++ ((getC l (k : Int)).toList ++ (if c.no = (k : Int) then [c] else []))
theorem outK_le (l : List Ck) (c : Ck) (k : Nat) : (outK l c k).length ≤ 2 * k := by
  induction k with
  | zero => simp [outK]
  | succ k ih =>
    simp only [outK, List.length_append]
    have h1 : (getC l (k : Int)).toList.length ≤ 1 := by cases getC l (k : Int) <;> simp
    have h2 : (if c.no = (k : Int) then [c] else []).length ≤ 1 := by split <;> simp
    omega
theorem filt_succ {l : List Ck} (hs : srtC l) (k : Nat) : l.filter (fun x => decide (x.no < ((k + 1 : Nat) : Int))) = l.filter (fun x => decide (x.no < (k : Int))) ++ (getC l (k : Int)).toList := by
  induction l with
  | nil => simp [getC]
  | cons x l ih =>
    have hs' : srtC l := fun a b y z hab hy hz => hs (a + 1) (b + 1) y z (by omega) (by simpa using hy) (by simpa using hz)
    have hall : ∀ y ∈ l, x.no < y.no := by
      intro y hy
      obtain ⟨j, hj⟩ := List.mem_iff_getElem?.1 hy
      exact hs 0 (j + 1) x y (by omega) (by simp) (by simpa using hj)
    have ih := ih hs'
    unfold getC at ih ⊢
    rw [List.filter_cons, List.filter_cons]
    by_cases h1 : x.no < (k : Int)
    · rw [if_pos (by simp; omega), if_pos (by simpa using h1), ih, List.find?_cons_of_neg (by simp; omega)]
      rfl
    · by_cases h2 : x.no = (k : Int)
      · have e1 : l.filter (fun x => decide (x.no < ((k + 1 : Nat) : Int))) = [] := by
          rw [List.filter_eq_nil_iff]
          intro y hy
          have := hall y hy
          simp
          omega
        have e2 : l.filter (fun x => decide (x.no < (k : Int))) = [] := by
          rw [List.filter_eq_nil_iff]
          intro y hy
          have := hall y hy
          simp
          omega
        rw [if_pos (by simp; omega), if_neg (by simpa using h1), List.find?_cons_of_pos (by simpa using h2), e1, e2]
        rfl
      · rw [if_neg (by simp; omega), if_neg (by simpa using h1), List.find?_cons_of_neg (by simpa using h2), ih]
theorem putC_above {a b : List Ck} {c : Ck} (h : ∀ x ∈ b, c.no < x.no) : putC (a ++ b) c = putC a c ++ b := by
  have e1 : b.filter (fun x => decide (x.no < c.no)) = [] := List.filter_eq_nil_iff.2 (fun x hx => by have := h x hx; simp; omega)
  have e2 : b.filter (fun x => decide (c.no ≤ x.no)) = b := List.filter_eq_self.2 (fun x hx => by have := h x hx; simp; omega)
  unfold putC
  rw [List.filter_append, List.filter_append, e1, e2]
  simp
theorem putC_end {a : List Ck} {c : Ck} (h : ∀ x ∈ a, x.no < c.no) : putC a c = a ++ [c] := by
  unfold putC
  rw [List.filter_eq_self.2 (fun x hx => by have := h x hx; simp; omega), List.filter_eq_nil_iff.2 (fun x hx => by have := h x hx; simp; omega)]
theorem outK_eq {l : List Ck} {c : Ck} (hs : srtC l) (h0 : ∀ x ∈ l, 0 ≤ x.no) (hn : getC l c.no = none) (hc : 0 ≤ c.no) (k : Nat) :
    outK l c k = if (k : Int) ≤ c.no then l.filter (fun x => decide (x.no < (k : Int))) else putC (l.filter (fun x => decide (x.no < (k : Int)))) c := by
  induction k with
  | zero =>
    have e : l.filter (fun x => decide (x.no < ((0 : Nat) : Int))) = [] := by
      rw [List.filter_eq_nil_iff]
      intro y hy
      have := h0 y hy
      simp
      omega
    rw [e]
    rw [if_pos (by omega)]
    rfl
  | succ k ih =>
    rw [outK, ih, filt_succ hs]
    by_cases h1 : ((k + 1 : Nat) : Int) ≤ c.no
    · rw [if_pos (by omega), if_pos h1, if_neg (by omega), List.append_nil]
    · rw [if_neg h1]
      by_cases h2 : c.no = (k : Int)
      · rw [if_pos (by omega), if_pos h2, ← h2, hn]
        simp only [Option.toList_none, List.append_nil, List.nil_append]
        rw [putC_end]
        intro x hx
        simpa using (List.mem_filter.1 hx).2
      · rw [if_neg (by omega), if_neg h2, List.append_nil, putC_above]
        intro x hx
        have hx' : getC l (k : Int) = some x := by simpa using hx
        have := List.find?_some hx'
        simp at this
        omega
/-- All that is laid out: the row with the chunk put into it. -/
theorem outK_all {g o : Int} {l : List Ck} {c : Ck} (hr : rightG g o l = true) (hf : fitB g o c = true) (hn : getC l c.no = none) : outK l c c.of_.toNat = putC l c := by
  unfold rightG at hr
  simp only [Bool.and_eq_true] at hr
  unfold fitB at hf
  simp only [Bool.and_eq_true, Bool.or_eq_true, decide_eq_true_eq] at hf
  have hc := may_of hf.1
  have hx : ∀ x ∈ l, 0 ≤ x.no ∧ x.no < c.of_ := by
    intro x hx
    obtain ⟨h1, h2, h3⟩ := cks_mem hr.2 hx
    have h4 := may_of h1
    have h5 : x.of_ = c.of_ := by rcases hf.2.2 with h | h <;> omega
    omega
  rw [outK_eq (srtC_of hr.2) (fun x h => (hx x h).1) hn hc.2.2.1, if_neg (by omega), List.filter_eq_self.2]
  intro x h
  have := hx x h
  simp
  omega
end Go.Proofs.Ytdanfeldbdooeaa
