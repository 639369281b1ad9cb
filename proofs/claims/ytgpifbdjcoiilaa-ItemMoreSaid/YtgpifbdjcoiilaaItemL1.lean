/-
  PLAIN: what is read of an item's bytes, and what was read is its bytes.
-/
import Derived.Test.YtgpifbdjcoiilaaItemGetP
import Derived.Test.YtgpifbdjcoiilaaVlqL4
namespace Go.Proofs.Ytgpifbdjcoiilaa
open Go.RowKit

theorem app_assoc (a b c : ByteArray) : a ++ b ++ c = a ++ (b ++ c) := bytes_ext (by simp only [data_app, List.append_assoc])
theorem emp_app (a : ByteArray) : (⟨#[]⟩ : ByteArray) ++ a = a := bytes_ext (by rw [data_app]; rfl)
theorem app_emp (a : ByteArray) : a ++ (⟨#[]⟩ : ByteArray) = a := bytes_ext (by rw [data_app]; simp)
theorem szi (a b : ByteArray) : ((a.size : Int) + (b.size : Int)) = ((a ++ b).size : Int) := by rw [ByteArray.size_append]; omega
theorem numP_at {s A R : ByteArray} {n : Int} (hs : s = A ++ (digS n.toNat ++ R)) (h0 : 0 ≤ n) (h1 : n ≤ 9223372036854775807) :
    numP s A.size 0 = (n, ((A ++ digS n.toNat).size : Int), 0) ∧ s = A ++ digS n.toNat ++ R := by
  have e : s = A ++ digS n.toNat ++ R := by rw [hs, app_assoc]
  refine ⟨?_, e⟩
  have hr := rdAt_back (most := 9223372036854775807) (n := n.toNat) (by omega) (by omega) A R
  rw [← e] at hr
  change getR s.data.toList A.size = _ at hr
  unfold numP
  rw [if_neg (by simp), hr, szi]
  simp; omega
theorem sgnP_at {s A R : ByteArray} {n : Int} (hs : s = A ++ (digS (zz n) ++ R)) (h0 : -9223372036854775808 ≤ n) (h1 : n ≤ 9223372036854775807) :
    sgnP s A.size 0 = (n, ((A ++ digS (zz n)).size : Int), 0) ∧ s = A ++ digS (zz n) ++ R := by
  have hz := zz_lt h0 h1
  have e : s = A ++ digS (zz n) ++ R := by rw [hs, app_assoc]
  refine ⟨?_, e⟩
  have hr := rdAt_back (most := 18446744073709551615) (n := zz n) hz (by omega) A R
  rw [← e] at hr
  change gsR s.data.toList A.size = _ at hr
  unfold sgnP
  rw [if_neg (by simp), hr, szi]
  simp [unz_zz]
theorem txtP_at {s A R t : ByteArray} (hs : s = A ++ ((digS t.size ++ t) ++ R)) (h0 : t.size ≤ 4096) :
    txtP s A.size 0 = (t, ((A ++ (digS t.size ++ t)).size : Int), 0) ∧ s = A ++ (digS t.size ++ t) ++ R := by
  have e : s = A ++ (digS t.size ++ t) ++ R := hs.trans (app_assoc A (digS t.size ++ t) R).symm
  refine ⟨?_, e⟩
  have hr := gtR_back A t R h0
  rw [← e] at hr
  unfold txtP
  rw [if_neg (by simp), hr, szi]
  simp
/-- A number that is cut off ends too early. -/
theorem rd_at_cut {most : Nat} {s A : ByteArray} {n j : Nat} (hs : s = A ++ (digS n).extract 0 j) (hn : n < 18446744073709551616) (hm : n ≤ most) (hj : j < (digS n).size) : rdAt most s.data.toList A.size = (0, 0, 20) := by
  unfold rdAt
  rw [if_neg (by rw [hs, data_app, List.length_append, len_data]; omega), hs, data_app, Int.toNat_natCast, ← len_data A, List.drop_left, data_extract, digS_data]
  rw [List.drop_zero, Nat.sub_zero, rd_dig_cut most hn hm (by rw [digS_size] at hj; exact hj)]
  simp
theorem numP_cut {s A : ByteArray} {n : Int} {j : Nat} (hs : s = A ++ (digS n.toNat).extract 0 j) (h0 : 0 ≤ n) (h1 : n ≤ 9223372036854775807) (hj : j < (digS n.toNat).size) : numP s A.size 0 = (0, (A.size : Int), 20) := by
  have hr : getR s.data.toList A.size = (0, 0, 20) := rd_at_cut (most := 9223372036854775807) hs (by omega) (by omega) hj
  unfold numP
  rw [if_neg (by simp), hr]
  simp
theorem sgnP_cut {s A : ByteArray} {n : Int} {j : Nat} (hs : s = A ++ (digS (zz n)).extract 0 j) (h0 : -9223372036854775808 ≤ n) (h1 : n ≤ 9223372036854775807) (hj : j < (digS (zz n)).size) : sgnP s A.size 0 = (0, (A.size : Int), 20) := by
  have hz := zz_lt h0 h1
  have hr : gsR s.data.toList A.size = (0, 0, 20) := rd_at_cut (most := 18446744073709551615) hs hz (by omega) hj
  unfold sgnP
  rw [if_neg (by simp), hr]
  simp
theorem ext_app (s : ByteArray) {q t u : Nat} (h : q ≤ t) (h' : t ≤ u) : s.extract q t ++ s.extract t u = s.extract q u := by
  apply bytes_ext
  simp only [data_app, data_extract]
  rw [show u - q = (t - q) + (u - t) by omega, List.take_add, List.drop_drop, show q + (t - q) = t by omega]
theorem ext_all (s : ByteArray) : s.extract 0 s.size = s := by
  apply bytes_ext
  rw [data_extract, List.drop_zero, Nat.sub_zero, ← len_data, List.take_length]
/-- What a read that came to is. -/
theorem numP_once {s : ByteArray} {p : Nat} {b v t b' : Int} (h : numP s p b = (v, t, b')) (hb : b' = 0) : b = 0 ∧ ∃ u : Nat, t = u ∧ p < u ∧ u ≤ s.size ∧ 0 ≤ v ∧ v ≤ 9223372036854775807 ∧ s.extract p u = digS v.toNat := by
  subst hb
  unfold numP at h
  by_cases h0 : b = 0
  · refine ⟨h0, ?_⟩
    rw [if_neg (by simpa using h0)] at h
    obtain ⟨⟨n, tt, er⟩, hr⟩ : ∃ r, getR s.data.toList p = r := ⟨_, rfl⟩
    rw [hr] at h
    simp only at h
    by_cases he : er = 0
    · subst he
      simp only [if_true, Prod.mk.injEq] at h
      obtain ⟨q, u, e1, e2, hq, hu, hn, hx⟩ := rdAt_once (by decide) hr
      obtain ⟨rfl, rfl, -⟩ := h
      have : q = p := by omega
      subst this
      exact ⟨u, e2, hq, hu, by omega, by omega, by rw [Int.toNat_natCast]; exact hx⟩
    · rw [if_neg he] at h
      simp only [Prod.mk.injEq] at h
      exact absurd h.2.2 he
  · rw [if_pos h0] at h
    simp only [Prod.mk.injEq] at h
    exact absurd h.2.2 h0
theorem sgnP_once {s : ByteArray} {p : Nat} {b v t b' : Int} (h : sgnP s p b = (v, t, b')) (hb : b' = 0) : b = 0 ∧ ∃ u : Nat, t = u ∧ p < u ∧ u ≤ s.size ∧ wfL v ∧ s.extract p u = digS (zz v) := by
  subst hb
  unfold sgnP at h
  by_cases h0 : b = 0
  · refine ⟨h0, ?_⟩
    rw [if_neg (by simpa using h0)] at h
    obtain ⟨⟨n, tt, er⟩, hr⟩ : ∃ r, gsR s.data.toList p = r := ⟨_, rfl⟩
    rw [hr] at h
    simp only at h
    by_cases he : er = 0
    · subst he
      simp only [if_true, Prod.mk.injEq] at h
      obtain ⟨q, u, e1, e2, hq, hu, hn, hx⟩ := rdAt_once (by decide) hr
      obtain ⟨rfl, rfl, -⟩ := h
      have : q = p := by omega
      subst this
      exact ⟨u, e2, hq, hu, unz_rng (by omega), by rw [zz_unz]; exact hx⟩
    · rw [if_neg he] at h
      simp only [Prod.mk.injEq] at h
      exact absurd h.2.2 he
  · rw [if_pos h0] at h
    simp only [Prod.mk.injEq] at h
    exact absurd h.2.2 h0
theorem txtP_once {s : ByteArray} {p : Nat} {b : Int} {v : ByteArray} {t b' : Int} (h : txtP s p b = (v, t, b')) (hb : b' = 0) : b = 0 ∧ ∃ u : Nat, t = u ∧ p < u ∧ u ≤ s.size ∧ v.size ≤ 4096 ∧ s.extract p u = digS v.size ++ v := by
  subst hb
  unfold txtP at h
  by_cases h0 : b = 0
  · refine ⟨h0, ?_⟩
    rw [if_neg (by simpa using h0)] at h
    obtain ⟨⟨n, tt, er⟩, hr⟩ : ∃ r, gtR s p = r := ⟨_, rfl⟩
    rw [hr] at h
    simp only at h
    by_cases he : er = 0
    · subst he
      simp only [if_true, Prod.mk.injEq] at h
      obtain ⟨q, u, e1, e2, hq, hu, hn, hx⟩ := gtR_once hr
      obtain ⟨rfl, rfl, -⟩ := h
      have : q = p := by omega
      subst this
      exact ⟨u, e2, hq, hu, hn, hx⟩
    · rw [if_neg he] at h
      simp only [Prod.mk.injEq] at h
      exact absurd h.2.2 he
  · rw [if_pos h0] at h
    simp only [Prod.mk.injEq] at h
    exact absurd h.2.2 h0
end Go.Proofs.Ytgpifbdjcoiilaa
