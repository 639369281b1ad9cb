/-
  PLAIN: a chunk of a split; what Take makes of it, and of others.
-/
import Derived.Test.YtdanfeldbdooeaaChunkW9
import Derived.Test.YtdanfeldbdooeaaChunkW4
set_option linter.unusedVariables false
set_option linter.unusedSimpArgs false
namespace Go.Proofs.Ytdanfeldbdooeaa
open Go.RowKit

theorem ck_may {g : Int} {s : ByteArray} {K : Nat} (h0 : 0 ≤ g) (h1 : g < 32) (hs : s.size ≤ 131072) (hK : K < nOf s) : mayB (ckOf g (nOf s) s K) = true := by
  have hn : nOf s ≤ 512 := by unfold nOf; omega
  have hsz : (s.extract (256 * K) (256 * K + 256)).size = min (256 * K + 256) s.size - 256 * K := by rw [ByteArray.size_extract]
  unfold mayB ckOf
  simp only [hsz]
  have a1 : decide (0 ≤ g) = true := by simpa using h0
  have a2 : decide (g < 32) = true := by simpa using h1
  have a3 : decide ((1 : Int) ≤ (nOf s : Int)) = true := by simp; omega
  have a4 : decide ((nOf s : Int) ≤ 512) = true := by simp; omega
  have a5 : decide ((0 : Int) ≤ (K : Int)) = true := by simp
  have a6 : decide ((K : Int) < (nOf s : Int)) = true := by simp; omega
  rw [a1, a2, a3, a4, a5, a6]
  simp only [Bool.true_and]
  unfold nOf at hK ⊢
  split
  · rename_i h
    simp
    omega
  · rename_i h
    have b1 : decide (min (256 * K + 256) s.size - 256 * K ≤ 256) = true := by simp; omega
    rw [b1, Bool.true_and]
    by_cases hz : 0 < min (256 * K + 256) s.size - 256 * K
    · rw [show decide (0 < min (256 * K + 256) s.size - 256 * K) = true by simpa using hz]; rfl
    · rw [show decide (((max ((s.size + 255) / 256) 1 : Nat) : Int) = 1) = true by simp; omega]; simp
theorem right_nil {g : Int} (h : groupB g = true) : rightG g 0 [] = true := by unfold rightG cksB; rw [h]; rfl
theorem right_one {g : Int} {c : Ck} (h : groupB g = true) (hm : mayB c = true) (hg : c.g = g) (ho : 0 ≤ c.of_ ∧ c.of_ ≤ 512) : rightG g c.of_ [c] = true := by
  unfold rightG cksB
  rw [h]
  have : ckAt g c.of_ [c] 0 = true := by
    unfold ckAt
    show (mayB c && (decide (c.g = g) && (decide (c.of_ = c.of_) && (decide ((0 : Nat) = 0) || _)))) = true
    rw [hm, hg]
    simp
  simp [ho.1, ho.2, this]
theorem take_first {g : Int} {c : Ck} (h : groupB g = true) (hm : mayB c = true) (hg : c.g = g) : takeC g 0 [] c = ⟨g, c.of_, [c], 0⟩ := by
  unfold takeC
  rw [if_pos (right_nil h), if_pos (by unfold fitB; rw [hm, hg]; simp)]
  rfl
theorem take_other {g : Int} {c x : Ck} (hr : rightG g c.of_ [c] = true) (hf : fitB g c.of_ x = false) : takeC g c.of_ [c] x = ⟨0, 0, [], 200⟩ := by
  unfold takeC
  rw [if_pos hr, if_neg (by rw [hf]; simp)]
theorem take_same {g : Int} {c : Ck} {b : ByteArray} (hr : rightG g c.of_ [c] = true) (hg : c.g = g) (hm : mayB c = true) :
    (takeC g c.of_ [c] ⟨c.g, c.no, c.of_, b⟩).er = (if b.toList == c.b.toList then 0 else 200) ∧ (takeC g c.of_ [c] ⟨c.g, c.no, c.of_, b⟩).l.length ≤ 1 := by
  unfold takeC
  rw [if_pos hr]
  have hget : getC [c] c.no = some c := by unfold getC; simp
  by_cases hb : (b.toList == c.b.toList) = true
  · have hbe : b = c.b := bytes_ext (by simpa [ByteArray.toList_eq] using hb)
    subst hbe
    have hfit : fitB g c.of_ ⟨c.g, c.no, c.of_, c.b⟩ = true := by
      unfold fitB
      rw [show mayB ⟨c.g, c.no, c.of_, c.b⟩ = true from hm]
      simp [hg]
    rw [if_pos hfit, if_pos hb]
    simp only [hget]
    rw [if_pos (ckEq_refl c)]
    exact ⟨rfl, Nat.le_refl _⟩
  · rw [if_neg hb]
    by_cases hfit : fitB g c.of_ ⟨c.g, c.no, c.of_, b⟩ = true
    · rw [if_pos hfit]
      simp only [hget]
      have hne : ckEq c ⟨c.g, c.no, c.of_, b⟩ = false := by
        unfold ckEq
        have : (c.b.toList == b.toList) = false := by
          simp only [beq_eq_false_iff_ne, ne_eq, beq_iff_eq] at hb ⊢
          exact fun e => hb e.symm
        simp [this]
      rw [if_neg (by rw [hne]; simp)]
      exact ⟨rfl, Nat.zero_le _⟩
    · rw [if_neg hfit]
      exact ⟨rfl, Nat.zero_le _⟩
/-- A row of chunks is in no box of what is gathered. -/
theorem keepG {W : World} {g : Nat} {x0 x1 : Int} {a3 : Option Addr} {n3 c3 : Nat} {T : TypeId} {v : Value} {l : List Ck} (hz : W.heap[g]? = some (.cells #[.int .i64 x0, .int .i64 x1, .slice a3 n3 c3] T (0, 0))) (a b c : Value) (h : Row Ck.cs 4 W v l) :
    Row Ck.cs 4 (((W.setCell ⟨g, 0, none⟩ a).setCell ⟨g, 1, none⟩ b).setCell ⟨g, 2, none⟩ c) v l := by
  have hk : ∀ p : Addr, p.block ≠ g → (((W.setCell ⟨g, 0, none⟩ a).setCell ⟨g, 1, none⟩ b).setCell ⟨g, 2, none⟩ c).cell? p = W.cell? p := by
    intro p hp
    have h1 : ∀ (w : World) (i : Nat) (u : Value), (w.setCell ⟨g, i, none⟩ u).cell? p = w.cell? p := fun w i u => World.cell?_of_block (Below.heap_setCell w ⟨g, i, none⟩ u p.block (fun e => hp (by simpa using e)))
    rw [h1, h1, h1]
  obtain ⟨A, cc, e, hc, h⟩ := h
  refine ⟨A, cc, e, hc, fun hl => ?_⟩
  obtain ⟨bb, o, ha, hb, hx⟩ := h hl
  have hne : bb ≠ g := by
    rintro rfl
    have h3 := hx 0 _ 3 _ (List.getElem?_eq_getElem hl) rfl
    rw [cellsAt hz] at h3
    generalize o + 0 * 4 + 3 = j at h3
    match j, h3 with
    | 0, h3 => simp at h3
    | 1, h3 => simp at h3
    | 2, h3 => simp at h3
    | j + 3, h3 => simp at h3
  exact ⟨bb, o, ha, by simpa using hb, fun i x j u h1 h2 => (hk _ hne).trans (hx i x j u h1 h2)⟩
end Go.Proofs.Ytdanfeldbdooeaa
