/-
  WALKS: the texts -SealW1, -SealW2, -SealW3, -SealW4, -SealW5, -SealW6, SealL1, SealL2, SealL3, but for what speaks of functions that are not here (progonly.py).
-/
import Derived.Test.YtlboehpgpbchhaaGreatSeT1
set_option linter.unusedVariables false
set_option linter.unusedSimpArgs false

namespace Go.Proofs.YtlboehpgpbchhaaGreat.Sel
open Go.RowKit
theorem allF_len (s : ByteArray) : ∀ (f p : Nat), p ≤ s.size → (allF s f p).1.length + p ≤ s.size ∧ p ≤ (allF s f p).2.1 ∧ (allF s f p).2.1 ≤ s.size
  | 0, p, h => by simp [allF]; omega
  | f + 1, p, h => by
    unfold allF
    by_cases h1 : p = s.size
    · rw [if_pos h1]; simp; omega
    · rw [if_neg h1]
      obtain ⟨⟨x, m, e⟩, hr⟩ : ∃ r, sgR s p = r := ⟨_, rfl⟩
      rw [hr]
      simp only
      by_cases he : e = 0
      · subst he
        rw [if_neg (by simp)]
        obtain ⟨q, t, hq, rfl, hqt, hts⟩ := sgR_facts hr
        have := allF_len s f t hts
        rw [Int.toNat_natCast]
        simp only [List.length_cons]
        omega
      · rw [if_pos he]; simp; omega
theorem headS_data (b : ByteArray) : (headS b).data.toList = 166 :: (dig b.size ++ b.data.toList) := by
  unfold headS; rw [data_app, data_app, digS_data]; rfl
theorem frm_data (b : ByteArray) : (frm b).data.toList = 166 :: (dig b.size ++ (b.data.toList ++ be4 (crc (headS b).data.toList))) := by
  unfold frm; rw [data_app, headS_data]; simp [be4S]
theorem sgR_back {s b : ByteArray} {A R : List UInt8} (hs : s.data.toList = A ++ ((frm b).data.toList ++ R)) (hb : b.size ≤ 8192) : sgR s A.length = (b, (A.length : Int) + (frm b).size, 0) := by
  have hsz : s.size = A.length + ((frm b).size + R.length) := by rw [← len_data, hs, List.length_append, List.length_append, len_data]
  have hfs := frm_size b
  have hdl := dig_length b.size
  have hp : A.length < s.size := by omega
  have h166 : s[A.length] = 166 := by
    have h := drop_byte s A.length hp
    rw [hs, List.drop_left, frm_data, List.cons_append] at h
    exact (List.cons.inj h).1.symm
  have hg : getR s.data.toList ((A.length : Int) + 1) = (b.size, ((A.length + 1 + (dig b.size).length : Nat) : Int), 0) := by
    have h := rdAt_back (most := 9223372036854775807) (n := b.size) (by omega) (by omega) ⟨(A ++ [166]).toArray⟩ ⟨(b.data.toList ++ be4 (crc (headS b).data.toList) ++ R).toArray⟩
    have e1 : (ByteArray.mk (A ++ [166]).toArray ++ digS b.size ++ ByteArray.mk (b.data.toList ++ be4 (crc (headS b).data.toList) ++ R).toArray).data.toList = s.data.toList := by
      rw [data_app, data_app, hs, frm_data, digS_data]; simp
    have e2 : (ByteArray.mk (A ++ [166]).toArray).size = A.length + 1 := by rw [← len_data]; simp
    rw [e1, e2, digS_size] at h
    unfold getR
    have e3 : ((A.length : Int) + 1) = ((A.length + 1 : Nat) : Int) := by omega
    rw [e3, h]; push_cast; rfl
  rw [sgR_end hp h166 hg hb (by omega)]
  have d1 : s.data.toList.drop A.length = (frm b).data.toList ++ R := by rw [hs, List.drop_left]
  have d2 : s.data.toList.drop (A.length + 1 + (dig b.size).length) = b.data.toList ++ (be4 (crc (headS b).data.toList) ++ R) := by
    rw [show A.length + 1 + (dig b.size).length = A.length + (1 + (dig b.size).length) by omega, ← List.drop_drop, d1, frm_data]
    rw [show 1 + (dig b.size).length = (166 :: dig b.size).length by simp; omega]
    rw [show (166 :: (dig b.size ++ (b.data.toList ++ be4 (crc (headS b).data.toList)))) ++ R = (166 :: dig b.size) ++ (b.data.toList ++ (be4 (crc (headS b).data.toList) ++ R)) by simp, List.drop_left]
  have x1 : s.extract A.length (A.length + 1 + (dig b.size).length + b.size) = headS b := by
    apply bytes_ext
    rw [data_extract, d1, frm_data]
    generalize be4 (crc (headS b).data.toList) = Z
    rw [headS_data]
    rw [show A.length + 1 + (dig b.size).length + b.size - A.length = (166 :: (dig b.size ++ b.data.toList)).length by simp; omega]
    rw [show (166 :: (dig b.size ++ (b.data.toList ++ Z))) ++ R = (166 :: (dig b.size ++ b.data.toList)) ++ (Z ++ R) by simp, List.take_left]
  have x2 : s.extract (A.length + 1 + (dig b.size).length) (A.length + 1 + (dig b.size).length + b.size) = b := by
    apply bytes_ext
    rw [data_extract, d2, Nat.add_sub_cancel_left, ← len_data b, List.take_left]
  have x3 : s.extract (A.length + 1 + (dig b.size).length + b.size) (A.length + 1 + (dig b.size).length + b.size + 4) = be4S (crc (headS b).data.toList) := by
    apply bytes_ext
    rw [data_extract, ← List.drop_drop, d2, ← len_data b, List.drop_left, Nat.add_sub_cancel_left]
    exact List.take_left (l₁ := be4 (crc (headS b).data.toList))
  rw [x1, x2, x3, if_pos rfl]
  refine Prod.ext rfl (Prod.ext ?_ rfl)
  show ((A.length + 1 + (dig b.size).length : Nat) : Int) + b.size + 4 = _
  rw [hfs]; push_cast; omega
/-- The frames of bodies, one behind the other. -/
def rowL : List ByteArray → List UInt8
  | [] => []
  | b :: t => (frm b).data.toList ++ rowL t
theorem rowL_append (L M : List ByteArray) : rowL (L ++ M) = rowL L ++ rowL M := by
  induction L with
  | nil => rfl
  | cons b t ih => simp [rowL, ih]
theorem allF_back {s : ByteArray} : ∀ (L : List ByteArray) (A : List UInt8) (f : Nat), s.data.toList = A ++ rowL L → (∀ b ∈ L, b.size ≤ 8192) → L.length < f → allF s f A.length = (L, s.size, 0)
  | [], A, f + 1, hs, _, _ => by
    have : A.length = s.size := by rw [← len_data, hs]; simp [rowL]
    unfold allF; rw [if_pos this, this]
  | b :: t, A, f + 1, hs, hb, hf => by
    have h := sgR_back (s := s) (b := b) (A := A) (R := rowL t) hs (hb b (by simp))
    have hsz : s.size = A.length + ((frm b).size + (rowL t).length) := by rw [← len_data, hs]; simp [rowL]
    have := frm_size b
    unfold allF
    rw [if_neg (by omega), h]
    simp only
    rw [if_neg (by simp)]
    have e : ((A.length : Int) + ((frm b).size : Int)).toNat = (A ++ (frm b).data.toList).length := by rw [List.length_append, len_data]; omega
    rw [e, allF_back t (A ++ (frm b).data.toList) f (by rw [hs]; simp [rowL]) (fun x hx => hb x (by simp [hx])) (by simp at hf; omega)]
theorem rowL_len (L : List ByteArray) : L.length ≤ (rowL L).length := by
  induction L with
  | nil => simp [rowL]
  | cons b t ih => have := frm_size b; simp only [rowL, List.length_cons, List.length_append, len_data]; omega
theorem allR_back {s : ByteArray} {L : List ByteArray} (hs : s.data.toList = rowL L) (hb : ∀ b ∈ L, b.size ≤ 8192) : allR s = (L, s.size, 0) := by
  have hl := rowL_len L
  rw [← hs, len_data] at hl
  exact allF_back L [] (s.size + 1) hs hb (by omega)
theorem sgR_once {s x : ByteArray} {p m : Int} (h : sgR s p = (x, m, 0)) : ∃ q t : Nat, p = q ∧ m = t ∧ q < t ∧ t ≤ s.size ∧ s.extract q t = frm x ∧ x.size ≤ 8192 := by
  have h0 := h
  unfold sgR at h
  by_cases h1 : p < 0 ∨ (s.size : Int) < p
  · rw [if_pos h1] at h; simp at h
  · rw [if_neg h1] at h
    obtain ⟨q, rfl⟩ := Int.eq_ofNat_of_zero_le (show 0 ≤ p by omega)
    by_cases h2 : (q : Int) = s.size
    · rw [if_pos h2] at h; simp at h
    · rw [if_neg h2, Int.toNat_natCast] at h
      have hp : q < s.size := by omega
      have hg1 : s.data.toList[q]? = some s[q] := by
        rw [List.getElem?_eq_getElem (by rw [len_data]; exact hp)]; rfl
      by_cases h3 : s[q] = 166
      · rw [if_neg (by simp [hg1, h3])] at h
        obtain ⟨⟨n, fr, er⟩, hg⟩ : ∃ r, getR s.data.toList ((q : Int) + 1) = r := ⟨_, rfl⟩
        rw [hg] at h
        simp only at h
        by_cases h4 : er = 0
        · subst h4
          obtain ⟨a, t, ha, rfl, hqt, hts, hn, hx⟩ := rdAt_once (by decide) hg
          rw [if_neg (by simp)] at h
          by_cases h5 : 8192 < n
          · rw [if_pos h5] at h; simp at h
          · rw [if_neg h5] at h
            by_cases h6 : (s.size : Int) < t + n + 4
            · rw [if_pos h6] at h; simp at h
            · rw [if_neg h6, Int.toNat_natCast] at h
              by_cases h7 : be4S (crc (s.extract q (t + n)).data.toList) = s.extract (t + n) (t + n + 4)
              · rw [if_pos h7] at h
                simp only [Prod.mk.injEq] at h
                obtain ⟨rfl, rfl, _⟩ := h
                have hsz : (s.extract t (t + n)).size = n := by rw [ByteArray.size_extract]; omega
                exact ⟨q, t + n + 4, rfl, by omega, by omega, by omega, (frm_iff hp h3 hg (by omega)).2 h7, by omega⟩
              · rw [if_neg h7] at h; simp at h
        · rw [if_pos h4] at h
          simp only [Prod.mk.injEq] at h
          exact absurd h.2.2 h4
      · rw [if_pos (by rw [hg1]; simpa using h3)] at h; simp at h
theorem allF_once (s : ByteArray) : ∀ (f p : Nat), p ≤ s.size → s.size + 1 ≤ f + p → (s.data.toList.drop p).take ((allF s f p).2.1 - p) = rowL (allF s f p).1 ∧ p ≤ (allF s f p).2.1 ∧ ((allF s f p).2.2 = 0 ↔ (allF s f p).2.1 = s.size) ∧ ∀ b ∈ (allF s f p).1, b.size ≤ 8192
  | 0, p, h, hf => by omega
  | f + 1, p, h, hf => by
    unfold allF
    by_cases h1 : p = s.size
    · rw [if_pos h1]; simp [rowL]; omega
    · rw [if_neg h1]
      obtain ⟨⟨x, m, e⟩, hr⟩ : ∃ r, sgR s p = r := ⟨_, rfl⟩
      rw [hr]
      simp only
      by_cases he : e = 0
      · subst he
        rw [if_neg (by simp)]
        obtain ⟨q, t, hq, rfl, hqt, hts, hx, hxs⟩ := sgR_once hr
        obtain rfl : q = p := by omega
        obtain ⟨i1, i2, i3, i4⟩ := allF_once s f t hts (by omega)
        rw [Int.toNat_natCast]
        refine ⟨?_, (by show q ≤ (allF s f t).2.1; omega), i3, ?_⟩
        · have hx' := congrArg (fun b : ByteArray => b.data.toList) hx
          simp only [data_extract] at hx'
          show _ = (frm x).data.toList ++ rowL (allF s f t).1
          rw [← i1, ← hx', show (allF s f t).2.1 - q = (t - q) + ((allF s f t).2.1 - t) by omega, List.take_add, List.drop_drop, show q + (t - q) = t by omega]
        · intro b hb
          rcases List.mem_cons.1 hb with rfl | hb
          · exact hxs
          · exact i4 b hb
      · rw [if_pos he]
        simp only [rowL, Nat.sub_self, List.take_zero, Nat.le_refl, true_and, List.not_mem_nil, false_imp_iff, implies_true, and_true]
        exact ⟨fun h => absurd h he, fun h => absurd h h1⟩
/-- Frames one behind the other, as a string. -/
def rowB (L : List ByteArray) : ByteArray := ⟨(rowL L).toArray⟩
theorem rowB_snoc (L : List ByteArray) (b : ByteArray) : rowB L ++ frm b = rowB (L ++ [b]) := by
  apply bytes_ext; rw [data_app]; simp [rowB, rowL_append, rowL]
theorem rowB_size (L : List ByteArray) : (rowB L).size = (rowL L).length := by rw [← len_data]; simp [rowB]
theorem rowL_take_le (L : List ByteArray) (k : Nat) : (rowL (L.take k)).length ≤ (rowL L).length := by
  conv => rhs; rw [← List.take_append_drop k L, rowL_append]
  simp
def OnRel (L : List ByteArray) (w0 : World) (r i : Value) (wr : World) : Prop :=
  ∃ k : Nat, k ≤ L.length ∧ i = .int .i64 k ∧ r = .string (rowB (L.take k)) ∧ Below w0.heap.size w0 wr
theorem own_cell {w : World} {B g cap n : Nat} {L : List ByteArray} (h : w.ownsRow B 9 1 (.slice (some ⟨g, 0, none⟩) n cap) n (strCs L)) (hn : n = L.length) (i : Nat) (hi : i < L.length) : w.cell? ⟨g, i, none⟩ = some (.string L[i]) := by
  rw [h.cellAt i (by omega)]; simp [strCs, hi]
end Go.Proofs.YtlboehpgpbchhaaGreat.Sel
