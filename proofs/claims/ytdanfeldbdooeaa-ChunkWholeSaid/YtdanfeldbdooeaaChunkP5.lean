/-
  PLAIN: a chunk that came, taken again; how many are missing, and which.
-/
import Derived.Test.YtdanfeldbdooeaaChunkP3
import Derived.Test.YtdanfeldbdooeaaChunkW11
set_option linter.unusedVariables false
set_option linter.unusedSimpArgs false
namespace Go.Proofs.Ytdanfeldbdooeaa
open Go.RowKit

theorem right_parts {g o : Int} {l : List Ck} (h : rightG g o l = true) : groupB g = true ∧ (0 ≤ o ∧ o ≤ 512) ∧ cksB g o l = true := by
  unfold rightG at h
  simp only [Bool.and_eq_true, decide_eq_true_eq] at h
  exact ⟨h.1.1, h.1.2, h.2⟩
theorem getC_at {l : List Ck} (hs : srtC l) {k : Nat} {c : Ck} (hk : l[k]? = some c) : getC l c.no = some c := by
  have hf : fndC l k c.no = true := by unfold fndC; rw [hk]; simp
  obtain ⟨x, h1, -, h3⟩ := getC_yes hs hf
  rw [hk] at h1
  injection h1 with h1
  rw [h3, h1]
theorem take_again {g o : Int} {l : List Ck} (h : rightG g o l = true) {k : Nat} {c : Ck} (hk : l[k]? = some c) : takeC g o l c = ⟨g, o, l, 0⟩ := by
  obtain ⟨-, -, hc⟩ := right_parts h
  obtain ⟨h1, h2, h3⟩ := cks_mem hc (List.mem_of_getElem? hk)
  unfold takeC
  rw [if_pos h, if_pos (by unfold fitB; rw [h1]; simp [h2, h3]), getC_at (srtC_of hc) hk]
  simp only
  rw [if_pos (ckEq_refl c)]
theorem miss_filt {l : List Ck} (hs : srtC l) (h0 : ∀ x ∈ l, 0 ≤ x.no) (k : Nat) : (missK l k).length + (l.filter (fun x => decide (x.no < (k : Int)))).length = k := by
  induction k with
  | zero =>
    have e : l.filter (fun x => decide (x.no < ((0 : Nat) : Int))) = [] := by
      rw [List.filter_eq_nil_iff]
      intro y hy
      have := h0 y hy
      simp
      omega
    rw [e]
    rfl
  | succ k ih =>
    rw [missK_succ, filt_succ hs, List.length_append]
    cases hg : getC l (k : Int) with
    | none =>
      rw [if_pos (by simp)]
      simp only [List.length_append, List.length_cons, List.length_nil, Option.toList_none]
      omega
    | some x =>
      rw [if_neg (by simp)]
      simp only [Option.toList_some, List.length_cons, List.length_nil]
      omega
theorem miss_count {g o : Int} {l : List Ck} (h : rightG g o l = true) : (missK l o.toNat).length + l.length = o.toNat := by
  obtain ⟨-, ho, hc⟩ := right_parts h
  have hm : ∀ x ∈ l, 0 ≤ x.no ∧ x.no < o := by
    intro x hx
    obtain ⟨h1, h2, h3⟩ := cks_mem hc hx
    have := may_of h1
    omega
  have := miss_filt (srtC_of hc) (fun x hx => (hm x hx).1) o.toNat
  rw [List.filter_eq_self.2 (fun x hx => by have := hm x hx; simp; omega)] at this
  exact this
theorem miss_mem {l : List Ck} {n : Nat} {no : Int} (h : no ∈ missK l n) : 0 ≤ no ∧ no < n ∧ getC l no = none := by
  unfold missK at h
  obtain ⟨i, hi, rfl⟩ := List.mem_map.1 h
  obtain ⟨h1, h2⟩ := List.mem_filter.1 hi
  rw [List.mem_range] at h1
  exact ⟨by omega, by omega, by simpa using h2⟩
theorem miss_pair (l : List Ck) (n : Nat) : (missK l n).Pairwise (fun a b => a < b) := by
  unfold missK
  rw [List.pairwise_map]
  exact ((List.pairwise_lt_range (n := n)).filter _).imp (fun h => by omega)
theorem miss_step {l : List Ck} {n k : Nat} {a b : Int} (ha : (missK l n)[k]? = some a) (hb : (missK l n)[k + 1]? = some b) : a < b := by
  have hp := miss_pair l n
  rw [List.pairwise_iff_getElem] at hp
  obtain ⟨h1, e1⟩ := List.getElem?_eq_some_iff.1 ha
  obtain ⟨h2, e2⟩ := List.getElem?_eq_some_iff.1 hb
  have := hp k (k + 1) h1 h2 (by omega)
  rw [e1, e2] at this
  exact this
theorem miss_came {l : List Ck} {no : Int} (h : getC l no = none) (k : Nat) : decide (no ∈ (l.take k).map Ck.no) = false := by
  rw [decide_eq_false_iff_not]
  intro hm
  obtain ⟨x, hx, rfl⟩ := List.mem_map.1 hm
  have := List.find?_eq_none.1 h x (List.mem_of_mem_take hx)
  simp at this
end Go.Proofs.Ytdanfeldbdooeaa
