/-
  The readers as pure steps, and one contract for each method.
-/
import Derived.Test.YtgpifbdjcoiilaaItemW17
namespace Go.Proofs.Ytgpifbdjcoiilaa
open Go.RowKit

/-- A number read: the value, where the reader stands, its first error. -/
def numP (s : ByteArray) (a b : Int) : Int × Int × Int :=
  if b ≠ 0 then (0, a, b) else match getR s.data.toList a with
    | (n, to, er) => if er = 0 then ((n : Int), to, 0) else (0, a, er)
def sgnP (s : ByteArray) (a b : Int) : Int × Int × Int :=
  if b ≠ 0 then (0, a, b) else match gsR s.data.toList a with
    | (n, to, er) => if er = 0 then (unz n, to, 0) else (0, a, er)
def txtP (s : ByteArray) (a b : Int) : ByteArray × Int × Int :=
  if b ≠ 0 then (⟨#[]⟩, a, b) else match gtR s a with
    | (x, to, er) => if er = 0 then (x, to, 0) else (⟨#[]⟩, a, er)
theorem read_num (g : Nat) (s : ByteArray) (a b v a' b' : Int) (w : World) (hg : w.heap[g]? = some (.cells #[.string s, .int .i64 a, .int .i64 b] 83 (0, 0))) (hs : s.size ≤ 140737488355328) (h : numP s a b = (v, a', b')) :
    Calls Try.prog 62 #[.pointer (some ⟨g, 0, none⟩)] w fun e w' => e = .returned (.int .i64 v) ∧ ReadTo g 83 s a' b' w w' := by
  unfold numP at h
  by_cases hb : b = 0
  · subst hb
    rw [if_neg (by simp)] at h
    obtain ⟨⟨n, to, er⟩, hr⟩ : ∃ r, getR s.data.toList a = r := ⟨_, rfl⟩
    rw [hr] at h
    by_cases he : er = 0
    · subst he
      simp at h
      obtain ⟨rfl, rfl, rfl⟩ := h
      exact read_num_yes g s a w n to hg hs hr
    · simp [he] at h
      obtain ⟨rfl, rfl, rfl⟩ := h
      exact read_num_no g s a w n to er hg hs hr he
  · rw [if_pos hb] at h
    simp at h
    obtain ⟨rfl, rfl, rfl⟩ := h
    exact (read_num_skip g s a b w hg hb).mono fun _ _ ⟨h1, h2⟩ => ⟨h1, h2 ▸ readTo_same hg⟩
theorem read_sgn (g : Nat) (s : ByteArray) (a b v a' b' : Int) (w : World) (hg : w.heap[g]? = some (.cells #[.string s, .int .i64 a, .int .i64 b] 83 (0, 0))) (hs : s.size ≤ 140737488355328) (h : sgnP s a b = (v, a', b')) :
    Calls Try.prog 63 #[.pointer (some ⟨g, 0, none⟩)] w fun e w' => e = .returned (.int .i64 v) ∧ ReadTo g 83 s a' b' w w' := by
  unfold sgnP at h
  by_cases hb : b = 0
  · subst hb
    rw [if_neg (by simp)] at h
    obtain ⟨⟨n, to, er⟩, hr⟩ : ∃ r, gsR s.data.toList a = r := ⟨_, rfl⟩
    rw [hr] at h
    by_cases he : er = 0
    · subst he
      simp at h
      obtain ⟨rfl, rfl, rfl⟩ := h
      exact read_sgn_yes g s a w n to hg hs hr
    · simp [he] at h
      obtain ⟨rfl, rfl, rfl⟩ := h
      exact read_sgn_no g s a w n to er hg hs hr he
  · rw [if_pos hb] at h
    simp at h
    obtain ⟨rfl, rfl, rfl⟩ := h
    exact (read_sgn_skip g s a b w hg hb).mono fun _ _ ⟨h1, h2⟩ => ⟨h1, h2 ▸ readTo_same hg⟩
theorem read_txt (g : Nat) (s : ByteArray) (a b : Int) (v : ByteArray) (a' b' : Int) (w : World) (hg : w.heap[g]? = some (.cells #[.string s, .int .i64 a, .int .i64 b] 83 (0, 0))) (hs : s.size ≤ 140737488355328) (h : txtP s a b = (v, a', b')) :
    Calls Try.prog 64 #[.pointer (some ⟨g, 0, none⟩)] w fun e w' => e = .returned (.string v) ∧ ReadTo g 83 s a' b' w w' := by
  unfold txtP at h
  by_cases hb : b = 0
  · subst hb
    rw [if_neg (by simp)] at h
    obtain ⟨⟨x, to, er⟩, hr⟩ : ∃ r, gtR s a = r := ⟨_, rfl⟩
    rw [hr] at h
    by_cases he : er = 0
    · subst he
      simp at h
      obtain ⟨rfl, rfl, rfl⟩ := h
      exact read_txt_yes g s a w x to hg hs hr
    · simp [he] at h
      obtain ⟨rfl, rfl, rfl⟩ := h
      exact read_txt_no g s a w x to er hg hs hr he
  · rw [if_pos hb] at h
    simp at h
    obtain ⟨rfl, rfl, rfl⟩ := h
    exact (read_txt_skip g s a b w hg hb).mono fun _ _ ⟨h1, h2⟩ => ⟨h1, h2 ▸ readTo_same hg⟩
end Go.Proofs.Ytgpifbdjcoiilaa
