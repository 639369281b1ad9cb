/-
  PLAIN: rows of items that barriers cut; what an aligner holds when so many items of each were offered.
-/
import Derived.Test.YtenpgkkefielfaaAlignW3
import Derived.Test.YtenpgkkefielfaaAlignW17
set_option linter.unusedVariables false
set_option linter.unusedSimpArgs false
namespace Go.Proofs.Ytenpgkkefielfaa
open Go.RowKit

def barI (n : Int) : It := ⟨4, ⟨#[]⟩, 0, 0, 0, n, 0, 0, ⟨#[]⟩, 0, 0⟩
theorem bar_wf {n : Int} (h : wfL n) : (barI n).Wf := ⟨by unfold wfL barI; simp, Nat.zero_le _, by unfold wfL barI; simp, by unfold wfL barI; simp, by unfold wfL barI; simp, h, by unfold wfL barI; simp, by unfold wfL barI; simp, Nat.zero_le _, by unfold wfL barI; simp, by unfold wfL barI; simp⟩
/-- Where a segment begins. -/
def sgo (e : Nat → Nat) : Nat → Nat
  | 0 => 0
  | c + 1 => e c + 1
/-- A row with so many barriers, numbered from 1 on, at the places e. -/
structure CutRow (B : Nat) (r : List It) (e : Nat → Nat) : Prop where
  last : e B = r.length
  seg : ∀ c, c ≤ B → sgo e c ≤ e c
  bar : ∀ c : Nat, c < B → r[e c]? = some (barI ((c : Int) + 1))
  mark : ∀ p x, r[p]? = some x → (∀ c, c < B → p ≠ e c) → x.kind ≠ 4
  ok : ∀ x ∈ r, rightI x = true ∧ x.Wf
  len : r.length ≤ 14
theorem CutRow.mono {B : Nat} {r : List It} {e : Nat → Nat} (h : CutRow B r e) {c d : Nat} (hcd : c < d) (hd : d ≤ B) : e c < e d := by
  induction d with
  | zero => omega
  | succ d ih =>
    have h1 : e d + 1 ≤ e (d + 1) := h.seg (d + 1) hd
    by_cases hc : c = d
    · subst hc
      omega
    · have := ih (by omega) (by omega)
      omega
theorem CutRow.lt {B : Nat} {r : List It} {e : Nat → Nat} (h : CutRow B r e) {c : Nat} (hc : c < B) : e c < r.length := by
  rw [← h.last]
  exact h.mono hc (Nat.le_refl _)
theorem CutRow.le {B : Nat} {r : List It} {e : Nat → Nat} (h : CutRow B r e) {c : Nat} (hc : c ≤ B) : e c ≤ r.length := by
  by_cases hcb : c = B
  · subst hcb
    rw [h.last]
    exact Nat.le_refl _
  · exact Nat.le_of_lt (h.lt (by omega))
/-- What stands in the segment up to a place; what is held there. -/
def segP (r : List It) (e : Nat → Nat) (c p : Nat) : List It := ((r.take p).drop (sgo e c)).take (e c - sgo e c)
def hldP (r : List It) (e : Nat → Nat) (c p : Nat) : List It := (r.take p).drop (e c + 1)
/-- An aligner, and what has passed, when so many items of each row were offered. -/
structure CSt (B n : Nat) (R : Nat → List It) (E : Nat → Nat → Nat) (c : Nat) (pos : Nat → Nat) (a : Aln) (P : Nat → List It) : Prop where
  n1 : 1 ≤ n
  n8 : n ≤ 8
  cB : c ≤ B
  B2 : B ≤ 2
  row : ∀ j, j < n → CutRow B (R j) (E j)
  lo : ∀ j, j < n → sgo (E j) c ≤ pos j
  hi : ∀ j, j < n → pos j ≤ (R j).length
  num : a.n = if ∃ j, j < n ∧ E j c < pos j then (c : Int) + 1 else 0
  gl : a.got.length = n
  hl : a.held.length = n
  got : ∀ j, j < n → a.got[j]? = some (decide (E j c < pos j))
  held : ∀ j, j < n → ∃ h, a.held[j]? = some h ∧ h.l = hldP (R j) (E j) c (pos j)
  wait : ∃ j, j < n ∧ pos j ≤ E j c
  pas : ∀ j, j < n → P j = segP (R j) (E j) c (pos j)
theorem segP_step {r : List It} {e : Nat → Nat} {c p : Nat} {x : It} (hx : r[p]? = some x) (h1 : sgo e c ≤ p) (h2 : p < e c) : segP r e c (p + 1) = segP r e c p ++ [x] := by
  unfold segP
  have hp := (List.getElem?_eq_some_iff.1 hx).1
  rw [List.take_add_one, hx, List.drop_append_of_le_length (by rw [List.length_take]; omega)]
  have l1 : ((r.take p).drop (sgo e c)).length = p - sgo e c := by rw [List.length_drop, List.length_take]; omega
  rw [List.take_of_length_le (l := (r.take p).drop (sgo e c) ++ (some x).toList) (by rw [List.length_append, l1]; simp; omega), List.take_of_length_le (l := (r.take p).drop (sgo e c)) (by rw [l1]; omega)]
  rfl
theorem segP_end {r : List It} {e : Nat → Nat} {c p : Nat} (h2 : e c ≤ p) : segP r e c p = (r.take (e c)).drop (sgo e c) := by
  unfold segP
  apply List.ext_getElem?
  intro i
  rw [List.getElem?_take, List.getElem?_drop, List.getElem?_drop, List.getElem?_take, List.getElem?_take]
  by_cases h : i < e c - sgo e c
  · rw [if_pos h, if_pos (by omega), if_pos (by omega)]
  · rw [if_neg h, if_neg (by omega)]
theorem hldP_step {r : List It} {e : Nat → Nat} {c p : Nat} {x : It} (hx : r[p]? = some x) (h1 : e c < p) : hldP r e c (p + 1) = hldP r e c p ++ [x] := by
  unfold hldP
  have hp := (List.getElem?_eq_some_iff.1 hx).1
  rw [List.take_add_one, hx, List.drop_append_of_le_length (by rw [List.length_take]; omega)]
  rfl
theorem hldP_nil {r : List It} {e : Nat → Nat} {c p : Nat} (h1 : p ≤ e c + 1) : hldP r e c p = [] := by
  unfold hldP
  exact List.drop_of_length_le (by rw [List.length_take]; omega)
theorem hldP_len {r : List It} {e : Nat → Nat} {c p : Nat} (h1 : p ≤ r.length) : (hldP r e c p).length = p - (e c + 1) := by
  unfold hldP
  rw [List.length_drop, List.length_take]
  omega
theorem hldP_get {r : List It} {e : Nat → Nat} {c p i : Nat} {x : It} (h : (hldP r e c p)[i]? = some x) : r[e c + 1 + i]? = some x := by
  unfold hldP at h
  rw [List.getElem?_drop, List.getElem?_take] at h
  split at h
  · exact h
  · cases h
theorem segP_start {r : List It} {e : Nat → Nat} {c : Nat} : segP r e c (sgo e c) = [] := by
  unfold segP
  rw [List.drop_of_length_le (by rw [List.length_take]; omega), List.take_nil]
theorem got_iff {B n : Nat} {R : Nat → List It} {E : Nat → Nat → Nat} {c : Nat} {pos : Nat → Nat} {a : Aln} {P : Nat → List It} (h : CSt B n R E c pos a P) (b : Bool) : a.got.contains b = true ↔ ∃ j, j < n ∧ decide (E j c < pos j) = b := by
  rw [List.contains_iff_mem]
  constructor
  · intro hm
    obtain ⟨j, hj, hjb⟩ := List.getElem_of_mem hm
    rw [h.gl] at hj
    have := h.got j hj
    rw [List.getElem?_eq_getElem (by rw [h.gl]; exact hj), hjb] at this
    injection this with this
    exact ⟨j, hj, this.symm⟩
  · rintro ⟨j, hj, hjb⟩
    have := h.got j hj
    rw [hjb] at this
    exact List.mem_of_getElem? this
theorem allI_of {l : List It} (h : ∀ x ∈ l, rightI x = true) : allI l = true := by
  unfold allI
  rw [List.all_eq_true]
  intro j hj
  have hj := List.mem_range.1 hj
  unfold iAt
  rw [List.getElem!_eq_getElem?_getD, List.getElem?_eq_getElem hj]
  exact h _ (List.getElem_mem hj)
/-- Such an aligner may be. -/
theorem CSt.right {B n : Nat} {R : Nat → List It} {E : Nat → Nat → Nat} {c : Nat} {pos : Nat → Nat} {a : Aln} {P : Nat → List It} (h : CSt B n R E c pos a P) : rightA a = true := by
  have h1 := h.n1
  have h8 := h.n8
  have hcB := h.cB
  have hB2 := h.B2
  have hn : 0 ≤ a.n ∧ a.n ≤ 3 := by
    rw [h.num]
    split <;> omega
  have ht : (a.got.contains true == decide (0 < a.n)) = true := by
    rw [beq_iff_eq, Bool.eq_iff_iff, got_iff h true, decide_eq_true_eq, h.num]
    constructor
    · rintro ⟨j, hj, hjb⟩
      rw [if_pos ⟨j, hj, of_decide_eq_true hjb⟩]
      omega
    · intro h0
      split at h0
      · rename_i hx
        obtain ⟨j, hj, hjb⟩ := hx
        exact ⟨j, hj, decide_eq_true hjb⟩
      · omega
  have hf : a.got.contains false = true := by
    obtain ⟨j, hj, hjp⟩ := h.wait
    exact (got_iff h false).2 ⟨j, hj, decide_eq_false (by omega)⟩
  unfold rightA
  rw [ht, hf, h.gl, h.hl]
  simp only [Bool.and_eq_true, decide_eq_true_eq, List.all_eq_true, List.mem_range]
  refine ⟨h1, h8, trivial, hn.1, by omega, trivial, trivial, fun j hj => ?_⟩
  obtain ⟨x, hx1, hx2⟩ := h.held j hj
  have hr := h.row j hj
  have hhi := h.hi j hj
  unfold hAt
  rw [List.getElem!_eq_getElem?_getD, hx1, Option.getD_some, List.getElem!_eq_getElem?_getD, h.got j hj, Option.getD_some, hx2]
  simp only [Bool.and_eq_true, Bool.or_eq_true, decide_eq_true_eq]
  rw [hldP_len hhi]
  have := hr.len
  refine ⟨by omega, by omega, allI_of fun x hx => ?_⟩
  unfold hldP at hx
  exact (hr.ok x (List.mem_of_mem_take (List.mem_of_mem_drop hx))).1
end Go.Proofs.Ytenpgkkefielfaa
