/-
  WALKS: the texts -VlqW1, -VlqW2, -VlqW3, -VlqW4, -VlqW5, -VlqW6, -VlqW7, VlqL1, VlqL2, VlqL3, VlqL4, but for what speaks of functions that are not here (progonly.py).
-/
import Derived.Test.YtlboehpgpbchhaaGreatVlqT
import Derived.Lib.IndexBytes
import Derived.Outline
import Derived.Deep.RegionWith
import Derived.Deep.DeepCutAuto
import Derived.Deep.QuietTactic
import Derived.BigQuiet
import Derived.Deep.RegionHeld3
set_option linter.unusedVariables false
set_option linter.unusedSimpArgs false
namespace Go.Proofs.YtlboehpgpbchhaaGreat
open Go.RowKit
theorem data_extract (s : ByteArray) (a b : Nat) : (s.extract a b).data.toList = (s.data.toList.drop a).take (b - a) := by
  rw [ByteArray.data_extract, Array.toList_extract]
theorem digS_data (n : Nat) : (digS n).data.toList = dig n := rfl
/-- An index that wraps round: (x % L + L) % L. -/
theorem ring_ix (x : Int) (L : Nat) (h : 0 < L) (hL : (L : Int) ≤ 4611686018427387904) : ∃ K : Nat, K < L ∧ (wrap64 (x.tmod L + L)).tmod L = (K : Int) := by
  have h1 := Int.tmod_lt_of_pos x (b := (L : Int)) (by omega)
  have h2 := Int.lt_tmod_of_pos x (b := (L : Int)) (by omega)
  have hw : wrap64 (x.tmod L + L) = x.tmod L + L := by
    generalize x.tmod L = y at *; unfold wrap64; omega
  rw [hw]
  have h3 : 0 ≤ x.tmod L + L := by omega
  refine ⟨((x.tmod L + L).tmod L).toNat, ?_, ?_⟩
  · have := Int.tmod_lt_of_pos (x.tmod L + L) (b := (L : Int)) (by omega)
    have := Int.tmod_nonneg (L : Int) h3
    omega
  · have := Int.tmod_nonneg (L : Int) h3
    omega
/-- A chain of steps each of which leaves what lay below as it was. -/
theorem Below.then {w a b : World} (h : Below w.heap.size w a) (k : Below a.heap.size a b) : Below w.heap.size w b := h.trans (k.mono h.size)
theorem ups_less (a b : Nat) (h : a < b) : ∀ k : Nat, a / 128 ^ (k + 1) = b / 128 ^ (k + 1) → Op.bytesLess (ups a k ++ [lowd a]) (ups b k ++ [lowd b]) = true
  | 0, he => by
    have ha : (lowd a).toNat = a % 128 := u8_ofNat_toNat (by omega)
    have hb : (lowd b).toNat = b % 128 := u8_ofNat_toNat (by omega)
    simp only [Nat.zero_add, Nat.pow_one] at he
    simp only [ups, List.nil_append, Op.bytesLess, Bool.and_false, Bool.or_false, decide_eq_true_eq, UInt8.lt_iff_toNat_lt]
    omega
  | k + 1, he => by
    have da := div_pow_succ' a (k + 1)
    have db := div_pow_succ' b (k + 1)
    have hle : a / 128 ^ (k + 1) ≤ b / 128 ^ (k + 1) := Nat.div_le_div_right (by omega)
    have ha : (UInt8.ofNat (a / 128 ^ (k + 1) % 128 + 128)).toNat = a / 128 ^ (k + 1) % 128 + 128 := u8_ofNat_toNat (by omega)
    have hb : (UInt8.ofNat (b / 128 ^ (k + 1) % 128 + 128)).toNat = b / 128 ^ (k + 1) % 128 + 128 := u8_ofNat_toNat (by omega)
    simp only [ups, List.cons_append, Op.bytesLess, Bool.or_eq_true, decide_eq_true_eq, Bool.and_eq_true, beq_iff_eq, UInt8.lt_iff_toNat_lt, ha, hb]
    by_cases hq : a / 128 ^ (k + 1) = b / 128 ^ (k + 1)
    · right
      exact ⟨by rw [hq], ups_less a b h k hq⟩
    · left; omega
theorem dig_less {a b : Nat} (hb : b < 18446744073709551616) (h : a < b) : (dig a).length < (dig b).length ∨ ((dig a).length = (dig b).length ∧ Op.bytesLess (dig a) (dig b) = true) := by
  rw [dig_length, dig_length]
  have hm := cnt_mono hb (Nat.le_of_lt h)
  rcases Nat.lt_or_eq_of_le hm with h1 | h1
  · left; omega
  · right
    refine ⟨by omega, ?_⟩
    have ha := (cnt_iff (n := a) (by omega) (cnt a)).2 (Nat.le_refl _)
    have hbb := (cnt_iff hb (cnt b)).2 (Nat.le_refl _)
    unfold dig
    rw [h1] at ha ⊢
    exact ups_less a b h (cnt b) (by rw [div_pow_succ', div_pow_succ', Nat.div_eq_of_lt ha, Nat.div_eq_of_lt hbb])
/-- A string's beginning, as short gives it. -/
def shortS (n : Nat) (s : ByteArray) : ByteArray := if n < s.size then s.extract 0 n else s
theorem shortS_size (n : Nat) (s : ByteArray) : (shortS n s).size ≤ n := by
  unfold shortS; split
  · rw [ByteArray.size_extract]; omega
  · omega
theorem data_app (a b : ByteArray) : (a ++ b).data.toList = a.data.toList ++ b.data.toList := by
  rw [ByteArray.data_append, Array.toList_append]
theorem bytes_ext {a b : ByteArray} (h : a.data.toList = b.data.toList) : a = b := by
  cases a; cases b; simp only at h; rw [Array.toList_inj.1 h]
theorem rdAt_back {most n : Nat} (h : n < 18446744073709551616) (hm : n ≤ most) (A B : ByteArray) :
    rdAt most (A ++ digS n ++ B).data.toList A.size = (n, (A.size : Int) + (digS n).size, 0) := by
  rw [data_app, data_app, digS_data]
  unfold rdAt
  rw [if_neg (by simp only [List.length_append, len_data]; omega), List.append_assoc, Int.toNat_natCast, ← len_data A, List.drop_left, rd_dig most h hm]
  simp only [if_true]
  rw [digS_size]
theorem gtR_back (A t B : ByteArray) (ht : t.size ≤ 4096) : gtR (A ++ (digS t.size ++ t) ++ B) A.size = (t, (A.size : Int) + ((digS t.size ++ t).size : Nat), 0) := by
  have h1 : A ++ (digS t.size ++ t) ++ B = A ++ digS t.size ++ (t ++ B) := bytes_ext (by simp only [data_app, List.append_assoc])
  unfold gtR getR
  rw [h1, rdAt_back (by omega) (by omega)]
  simp only [ne_eq, not_true_eq_false, if_false]
  have hsz : (A ++ digS t.size ++ (t ++ B)).size = A.size + (digS t.size).size + (t.size + B.size) := by simp only [ByteArray.size_append]
  rw [if_neg (by omega), if_neg (by rw [hsz]; omega)]
  have e1 : ((A.size : Int) + ((digS t.size).size : Int)).toNat = A.size + (digS t.size).size := by omega
  rw [e1]
  refine Prod.ext ?_ (Prod.ext ?_ rfl)
  · apply bytes_ext
    simp only [data_extract, data_app]
    rw [show A.size + (digS t.size).size = (A.data.toList ++ (digS t.size).data.toList).length by rw [List.length_append, len_data, len_data], List.drop_left, Nat.add_sub_cancel_left, ← len_data t, List.take_left]
  · simp only [ByteArray.size_append]; omega
theorem add3 (A s B : ByteArray) (h : A.size + s.size + B.size ≤ 9223372036854775807) (W : World) :
    (Op.stringOp .add A s).run Tryz.prog W = .ok (.string (A ++ s)) W ∧ (Op.stringOp .add (A ++ s) B).run Tryz.prog W = .ok (.string (A ++ s ++ B)) W :=
  ⟨run_string_add_sum W A s (by omega), run_string_add_sum W (A ++ s) B (by rw [ByteArray.size_append]; omega)⟩
theorem rdAt_once {most : Nat} (hm : most < 18446744073709551616) {s : ByteArray} {p : Int} {n : Nat} {tt : Int} (h : rdAt most s.data.toList p = (n, tt, 0)) :
    ∃ q t : Nat, p = q ∧ tt = t ∧ q < t ∧ t ≤ s.size ∧ n ≤ most ∧ s.extract q t = digS n := by
  have hf := rdAt_facts h hm
  rw [len_data] at hf
  obtain ⟨_, hn, hto, hle, hp0⟩ : (0:Int) = 0 ∧ n ≤ most ∧ p < tt ∧ tt ≤ s.size ∧ 0 ≤ p := by
    rcases hf with h | h
    · exact h
    · omega
  obtain ⟨q, rfl⟩ := Int.eq_ofNat_of_zero_le hp0
  obtain ⟨t, rfl⟩ := Int.eq_ofNat_of_zero_le (show 0 ≤ tt by omega)
  refine ⟨q, t, rfl, rfl, by omega, by omega, hn, ?_⟩
  unfold rdAt at h
  rw [if_neg (by rw [len_data]; omega), Int.toNat_natCast] at h
  obtain ⟨⟨a, k, e⟩, hr⟩ : ∃ r, rd most (s.data.toList.drop q) 0 0 = r := ⟨_, rfl⟩
  rw [hr] at h
  simp only at h
  by_cases he : e = 0
  · subst he
    simp only [if_true, Prod.mk.injEq] at h
    obtain ⟨rfl, hk, _⟩ := h
    have := (rd_is_dig hm hr).1
    apply bytes_ext
    rw [data_extract, digS_data, ← this]
    congr 1; omega
  · rw [if_neg he] at h
    simp only [Prod.mk.injEq] at h
    exact absurd h.2.2 he
theorem gtR_once {s x : ByteArray} {p m : Int} (h : gtR s p = (x, m, 0)) :
    ∃ q t : Nat, p = q ∧ m = t ∧ q < t ∧ t ≤ s.size ∧ x.size ≤ 4096 ∧ s.extract q t = digS x.size ++ x := by
  obtain ⟨⟨n, tt, er⟩, hg⟩ : ∃ r, getR s.data.toList p = r := ⟨_, rfl⟩
  unfold gtR at h
  rw [hg] at h
  simp only at h
  by_cases h1 : er = 0
  · subst h1
    obtain ⟨q, t, rfl, rfl, hqt, hts, hn, hx⟩ := rdAt_once (by decide) hg
    rw [if_neg (by simp)] at h
    by_cases h2 : 4096 < n
    · rw [if_pos h2] at h; simp at h
    · rw [if_neg h2] at h
      by_cases h3 : (s.size : Int) < t + n
      · rw [if_pos h3] at h; simp at h
      · rw [if_neg h3, Int.toNat_natCast] at h
        simp only [Prod.mk.injEq] at h
        obtain ⟨rfl, rfl, _⟩ := h
        have hsz : (s.extract t (t + n)).size = n := by rw [ByteArray.size_extract]; omega
        refine ⟨q, t + n, rfl, by omega, by omega, by omega, by omega, ?_⟩
        rw [hsz, ← hx]
        apply bytes_ext
        simp only [data_app, data_extract]
        rw [show t + n - q = (t - q) + n by omega, List.take_add, List.drop_drop]
        rw [show q + (t - q) = t by omega, Nat.add_sub_cancel_left]
  · rw [if_pos h1] at h
    simp only [Prod.mk.injEq] at h
    exact absurd h.2.2 h1
theorem gtR_err {s x : ByteArray} {p m e : Int} (h : gtR s p = (x, m, e)) (he : e ≠ 0) : x = ⟨#[]⟩ ∧ m = 0 := by
  obtain ⟨⟨n, tt, er⟩, hg⟩ : ∃ r, getR s.data.toList p = r := ⟨_, rfl⟩
  unfold gtR at h
  rw [hg] at h
  simp only at h
  by_cases h1 : er = 0
  · rw [if_neg (by simpa using h1)] at h
    by_cases h2 : 4096 < n
    · rw [if_pos h2] at h; simp only [Prod.mk.injEq] at h; exact ⟨h.1.symm, h.2.1.symm⟩
    · rw [if_neg h2] at h
      by_cases h3 : (s.size : Int) < tt + n
      · rw [if_pos h3] at h; simp only [Prod.mk.injEq] at h; exact ⟨h.1.symm, h.2.1.symm⟩
      · rw [if_neg h3] at h
        simp only [Prod.mk.injEq] at h
        exact absurd h.2.2.symm he
  · rw [if_pos h1] at h
    simp only [Prod.mk.injEq] at h
    exact ⟨h.1.symm, h.2.1.symm⟩
theorem Below.drewN' {B : Nat} {a w : World} (h : Below B a w) {n : Nat} : Below B a (w.drewN n) := ⟨h.os, h.tape, h.output, h.size, h.block⟩
end Go.Proofs.YtlboehpgpbchhaaGreat
