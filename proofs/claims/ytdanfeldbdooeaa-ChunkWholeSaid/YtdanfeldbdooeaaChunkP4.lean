/-
  PLAIN: how many are missing; all bytes of what came.
-/
import Derived.Test.YtdanfeldbdooeaaChunkP3
import Derived.Test.YtdanfeldbdooeaaChunkW11
import Derived.Test.YtdanfeldbdooeaaBuildS
set_option linter.unusedVariables false
set_option linter.unusedSimpArgs false
namespace Go.Proofs.Ytdanfeldbdooeaa
open Go.RowKit

theorem miss_len {l : List Ck} (hs : srtC l) (h0 : ∀ x ∈ l, 0 ≤ x.no) (k : Nat) : (missK l k).length + (l.filter (fun x => decide (x.no < (k : Int)))).length = k := by
  induction k with
  | zero =>
    have e : l.filter (fun x => decide (x.no < ((0 : Nat) : Int))) = [] := by
      rw [List.filter_eq_nil_iff]
      intro y hy
      have := h0 y hy
      simp
      omega
    rw [e]
    simp [missK]
  | succ k ih =>
    rw [filt_succ hs, missK_succ, List.length_append]
    cases hg : getC l (k : Int) with
    | none =>
      rw [if_pos (show (none : Option Ck).isNone = true from rfl), List.length_append]
      simp
      omega
    | some x =>
      rw [if_neg (by simp)]
      simp
      omega
theorem right_mem {g o : Int} {l : List Ck} (h : rightG g o l = true) : (0 ≤ o ∧ o ≤ 512) ∧ srtC l ∧ ∀ x ∈ l, mayB x = true ∧ x.g = g ∧ x.of_ = o ∧ 0 ≤ x.no ∧ x.no < o := by
  unfold rightG at h
  simp only [Bool.and_eq_true, decide_eq_true_eq] at h
  refine ⟨h.1.2, srtC_of h.2, fun x hx => ?_⟩
  obtain ⟨h1, h2, h3⟩ := cks_mem h.2 hx
  have h4 := may_of h1
  exact ⟨h1, h2, h3, h4.2.2.1, by omega⟩
theorem miss_all {g : Int} {n : Nat} {l : List Ck} (h : rightG g n l = true) : (missK l n).length + l.length = n := by
  obtain ⟨-, h2, h3⟩ := right_mem h
  have := miss_len h2 (fun x hx => (h3 x hx).2.2.2.1) n
  rw [List.filter_eq_self.2 (fun x hx => by have := h3 x hx; simp; omega)] at this
  exact this
/-- The bytes of the first k, one behind the other. -/
def catK (l : List Ck) (k : Nat) : ByteArray := (l.take k).foldl (fun a x => a ++ x.b) ⟨#[]⟩
theorem catK_succ {l : List Ck} {k : Nat} {x : Ck} (h : l[k]? = some x) : catK l (k + 1) = catK l k ++ x.b := by
  unfold catK
  rw [List.take_add_one, h, Option.toList_some, List.foldl_append]
  rfl
theorem may_size {c : Ck} (h : mayB c = true) : c.b.size ≤ 256 := by
  unfold mayB at h
  simp only [Bool.and_eq_true, decide_eq_true_eq] at h
  have h6 := h.2.2.2.2.2
  split at h6
  · have : c.b.size = 256 := by simpa using h6
    omega
  · simp only [Bool.and_eq_true, decide_eq_true_eq] at h6
    exact h6.1
theorem catK_le {l : List Ck} (h : ∀ x ∈ l, mayB x = true) (k : Nat) : (catK l k).size ≤ 256 * k := by
  induction k with
  | zero => exact Nat.le_refl _
  | succ k ih =>
    cases hx : l[k]? with
    | none =>
      have e : catK l (k + 1) = catK l k := by unfold catK; rw [List.take_add_one, hx, Option.toList_none, List.append_nil]
      rw [e]
      omega
    | some x =>
      rw [catK_succ hx, ByteArray.size_append]
      have := may_size (h x (List.mem_of_getElem? hx))
      omega
/-- What Bytes answers. -/
structure Bt where
  (b : ByteArray) (er : Int)
def bytesC (g o : Int) (l : List Ck) : Bt := if rightG g o l = true then (if o = 0 ∨ (l.length : Int) < o then ⟨⟨#[]⟩, 20⟩ else ⟨catK l l.length, 0⟩) else ⟨⟨#[]⟩, 1⟩
theorem data_append (a b : ByteArray) : (a ++ b).data.toList = a.data.toList ++ b.data.toList := by
  rw [ByteArray.data_append, Array.toList_append]
theorem byte_cat (a b : ByteArray) : Lib.byteCells (a ++ b).data.toList = Lib.byteCells a.data.toList ++ Lib.strCells b := by
  rw [data_append]
  unfold Lib.byteCells Lib.strCells
  rw [List.map_append]
end Go.Proofs.Ytdanfeldbdooeaa
