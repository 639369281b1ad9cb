/-
  The reference's reader as pure steps, and one contract for each method.
-/
import Derived.Test.YtgpifbdjcoiilaaItemW18
namespace Go.Proofs.Ytgpifbdjcoiilaa
open Go.RowKit

def rnumP (s : ByteArray) (a b : Int) : Int × Int × Int :=
  if b ≠ 0 then (0, a, b) else match getR s.data.toList a with
    | (n, to, er) => ((n : Int), to, er)
def rsgnP (s : ByteArray) (a b : Int) : Int × Int × Int :=
  if b ≠ 0 then (0, a, b) else match gsR s.data.toList a with
    | (n, to, er) => (unz n, to, er)
def rtxtP (s : ByteArray) (a b : Int) : ByteArray × Int × Int :=
  if b ≠ 0 then (⟨#[]⟩, a, b) else match gtR s a with
    | (x, to, er) => (x, to, er)
theorem rread_num (g : Nat) (s : ByteArray) (a b v a' b' : Int) (w : World) (hg : w.heap[g]? = some (.cells #[.string s, .int .i64 a, .int .i64 b] 88 (0, 0))) (hs : s.size ≤ 140737488355328) (h : rnumP s a b = (v, a', b')) :
    Calls Try.prog 65 #[.pointer (some ⟨g, 0, none⟩)] w fun e w' => e = .returned (.int .i64 v) ∧ ReadTo g 88 s a' b' w w' := by
  unfold rnumP at h
  by_cases hb : b = 0
  · subst hb
    rw [if_neg (by simp)] at h
    obtain ⟨⟨n, to, er⟩, hr⟩ : ∃ r, getR s.data.toList a = r := ⟨_, rfl⟩
    rw [hr] at h
    simp at h
    obtain ⟨rfl, rfl, rfl⟩ := h
    exact rfield_num g s a w n _ _ hg hs hr
  · rw [if_pos hb] at h
    simp at h
    obtain ⟨rfl, rfl, rfl⟩ := h
    exact (rfield_num_skip g s a b w hg hb).mono fun _ _ ⟨h1, h2⟩ => ⟨h1, h2 ▸ readTo_same hg⟩
theorem rread_sgn (g : Nat) (s : ByteArray) (a b v a' b' : Int) (w : World) (hg : w.heap[g]? = some (.cells #[.string s, .int .i64 a, .int .i64 b] 88 (0, 0))) (hs : s.size ≤ 140737488355328) (h : rsgnP s a b = (v, a', b')) :
    Calls Try.prog 67 #[.pointer (some ⟨g, 0, none⟩)] w fun e w' => e = .returned (.int .i64 v) ∧ ReadTo g 88 s a' b' w w' := by
  unfold rsgnP at h
  by_cases hb : b = 0
  · subst hb
    rw [if_neg (by simp)] at h
    obtain ⟨⟨n, to, er⟩, hr⟩ : ∃ r, gsR s.data.toList a = r := ⟨_, rfl⟩
    rw [hr] at h
    simp at h
    obtain ⟨rfl, rfl, rfl⟩ := h
    exact rfield_sgn g s a w n _ _ hg hs hr
  · rw [if_pos hb] at h
    simp at h
    obtain ⟨rfl, rfl, rfl⟩ := h
    exact (rfield_sgn_skip g s a b w hg hb).mono fun _ _ ⟨h1, h2⟩ => ⟨h1, h2 ▸ readTo_same hg⟩
theorem rread_txt (g : Nat) (s : ByteArray) (a b : Int) (v : ByteArray) (a' b' : Int) (w : World) (hg : w.heap[g]? = some (.cells #[.string s, .int .i64 a, .int .i64 b] 88 (0, 0))) (hs : s.size ≤ 140737488355328) (h : rtxtP s a b = (v, a', b')) :
    Calls Try.prog 66 #[.pointer (some ⟨g, 0, none⟩)] w fun e w' => e = .returned (.string v) ∧ ReadTo g 88 s a' b' w w' := by
  unfold rtxtP at h
  by_cases hb : b = 0
  · subst hb
    rw [if_neg (by simp)] at h
    obtain ⟨⟨x, to, er⟩, hr⟩ : ∃ r, gtR s a = r := ⟨_, rfl⟩
    rw [hr] at h
    simp at h
    obtain ⟨rfl, rfl, rfl⟩ := h
    exact rfield_txt g s a w x _ _ hg hs hr
  · rw [if_pos hb] at h
    simp at h
    obtain ⟨rfl, rfl, rfl⟩ := h
    exact (rfield_txt_skip g s a b w hg hb).mono fun _ _ ⟨h1, h2⟩ => ⟨h1, h2 ▸ readTo_same hg⟩
end Go.Proofs.Ytgpifbdjcoiilaa
