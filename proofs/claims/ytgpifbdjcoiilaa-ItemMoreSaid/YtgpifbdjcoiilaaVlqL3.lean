/-
  WALKS of the laws of layer 2: VlqBack.
-/
import Derived.Test.YtgpifbdjcoiilaaVlqL2
namespace Go.Proofs.Ytgpifbdjcoiilaa
open Go.RowKit

theorem data_app (a b : ByteArray) : (a ++ b).data.toList = a.data.toList ++ b.data.toList := by
  rw [ByteArray.data_append, Array.toList_append]
theorem bytes_ext {a b : ByteArray} (h : a.data.toList = b.data.toList) : a = b := by
  cases a; cases b; simp only at h; rw [Array.toList_inj.1 h]

theorem rdAt_back {most n : Nat} (h : n < 18446744073709551616) (hm : n ≤ most) (A B : ByteArray) :
    rdAt most (A ++ digS n ++ B).data.toList A.size = (n, (A.size : Int) + (digS n).size, 0) := by
  rw [data_app, data_app, digS_data]
  unfold rdAt
  rw [if_neg (by simp only [List.length_append, len_data]; omega), List.append_assoc, Int.toNat_natCast, ← len_data A, List.drop_left, rd_dig most h hm]
  simp only [if_true]
  rw [digS_size]

theorem gtR_back (A t B : ByteArray) (ht : t.size ≤ 4096) : gtR (A ++ (digS t.size ++ t) ++ B) A.size = (t, (A.size : Int) + ((digS t.size ++ t).size : Nat), 0) := by
  have h1 : A ++ (digS t.size ++ t) ++ B = A ++ digS t.size ++ (t ++ B) := bytes_ext (by simp only [data_app, List.append_assoc])
  unfold gtR getR
  rw [h1, rdAt_back (by omega) (by omega)]
  simp only [ne_eq, not_true_eq_false, if_false]
  have hsz : (A ++ digS t.size ++ (t ++ B)).size = A.size + (digS t.size).size + (t.size + B.size) := by simp only [ByteArray.size_append]
  rw [if_neg (by omega), if_neg (by rw [hsz]; omega)]
  have e1 : ((A.size : Int) + ((digS t.size).size : Int)).toNat = A.size + (digS t.size).size := by omega
  rw [e1]
  refine Prod.ext ?_ (Prod.ext ?_ rfl)
  · apply bytes_ext
    simp only [data_extract, data_app]
    rw [show A.size + (digS t.size).size = (A.data.toList ++ (digS t.size).data.toList).length by rw [List.length_append, len_data, len_data], List.drop_left, Nat.add_sub_cancel_left, ← len_data t, List.take_left]
  · simp only [ByteArray.size_append]; omega

theorem add3 (A s B : ByteArray) (h : A.size + s.size + B.size ≤ 9223372036854775807) (W : World) :
    (Op.stringOp .add A s).run Try.prog W = .ok (.string (A ++ s)) W ∧ (Op.stringOp .add (A ++ s) B).run Try.prog W = .ok (.string (A ++ s ++ B)) W :=
  ⟨run_string_add_sum W A s (by omega), run_string_add_sum W (A ++ s) B (by rw [ByteArray.size_append]; omega)⟩

set_option maxHeartbeats 2000000 in
set_option maxRecDepth 100000 in
theorem back_walk (n : Int) (t a b : ByteArray) (w : World) (n0 : -9223372036854775808 ≤ n) (n1 : n ≤ 9223372036854775807) (ht : t.size ≤ 9223372036854775807) (ha : a.size ≤ 9223372036854775807) (hb : b.size ≤ 9223372036854775807) :
    Calls Try.prog 3 #[.int .i64 n, .string t, .string a, .string b] w fun e w' => e = .returned (.bool true) ∧ Below w.heap.size w w' := by
  have hA := shortS_size 6000 a
  have hB := shortS_size 6000 b
  have HsA := fun W => Lib.hid (short_any a W ha)
  have HsB := fun W => Lib.hid (short_any b W hb)
  obtain ⟨A, hAe⟩ : ∃ S, shortS 6000 a = S := ⟨_, rfl⟩
  obtain ⟨B, hBe⟩ : ∃ S, shortS 6000 b = S := ⟨_, rfl⟩
  rw [hAe] at hA
  rw [hBe] at hB
  have HAe := Lib.hid hAe
  have HBe := Lib.hid hBe
  clear hAe hBe ha hb
  have hz := zz_lt n0 n1
  have hc := cnt_le hz
  have hd : (digS (zz n)).size ≤ 10 := by rw [digS_size, dig_length]; omega
  have hd0 : 1 ≤ (digS (zz n)).size := by rw [digS_size, dig_length]; omega
  have hr := rdAt_back (most := 18446744073709551615) hz (Nat.le_of_lt_succ hz) A B
  have Hr := Lib.hid hr
  have hu := unz_zz n
  have Hu := Lib.hid hu
  have hbd : (((digS (zz n)).size : Int) == 0) = false := beq_eq_false_iff_ne.2 (by omega)
  have h3 := add3 A (digS (zz n)) B (by omega)
  have h31 := fun W => (h3 W).1
  have h32 := fun W => (h3 W).2
  have hsz : (A ++ digS (zz n) ++ B).size ≤ 9223372036854775807 := by rw [ByteArray.size_append, ByteArray.size_append]; omega
  have Hsz := Lib.hid hsz
  have hT : t.size ≤ 4096 → (digS t.size ++ t).size ≤ 5000 := by
    intro h
    have := cnt_le (n := t.size) (by omega)
    rw [ByteArray.size_append, digS_size, dig_length]; omega
  have hN : 0 ≤ n → (digS n.toNat).size ≤ 10 := by
    intro h
    have := cnt_le (n := n.toNat) (by omega)
    rw [digS_size, dig_length]; omega
  have HT := Lib.hid hT
  have HN := Lib.hid hN
  clear hz hc hr hu h3 hsz hT hN
  go_enter Try.func3, Try.ntmps3
  go_wp2_with fail
  refine ((HsA _).out).mono ?_
  rintro e w0 ⟨rfl, rfl⟩
  rw [show (if 6000 < a.size then a.extract 0 6000 else a) = A from HAe.out]
  go_wp2_with fail
  refine ((HsB _).out).mono ?_
  rintro e w0 ⟨rfl, rfl⟩
  rw [show (if 6000 < b.size then b.extract 0 6000 else b) = B from HBe.out]
  go_wp2_with fail
  refine (signed_any n _ n0 n1).mono ?_
  rintro e w1 ⟨rfl, hb1⟩
  go_wp2_with fail
  refine (gets_any _ _ _ (zz n) _ 0 Hsz.out Hr.out).mono ?_
  rintro e w0 ⟨rfl, rfl⟩
  rw [Hu.out]
  go_wp2_with fail
  by_cases hn : n < 0
  · refine (put_no n _ hn).mono ?_
    rintro e w0 ⟨rfl, rfl⟩
    go_wp2_with fail
    by_cases hl : 4096 < t.size
    · refine (textS_no t _ hl ht).mono ?_
      rintro e w0 ⟨rfl, rfl⟩
      go_wp2_with fail
      go_ret
      exact ⟨rfl, hb1⟩
    · refine (textS_yes t _ (by omega)).mono ?_
      rintro e w2 ⟨rfl, hb2⟩
      have k3 := add3 A (digS t.size ++ t) B (by have := HT.out; omega)
      have k5 : (digS t.size).size + t.size ≤ 5000 := by have := HT.out (by omega); rw [ByteArray.size_append] at this; exact this
      have k31 := fun W => (k3 W).1
      have k32 := fun W => (k3 W).2
      clear k3
      go_wp2_with fail
      refine (gett_any _ _ _ _ _ _ (by rw [ByteArray.size_append, ByteArray.size_append]; have := HT.out; omega) (gtR_back A t B (by omega))).mono ?_
      rintro e w0 ⟨rfl, rfl⟩
      go_wp2_with fail
      go_ret
      exact ⟨rfl, Below.then hb1 hb2⟩
  · have hn0 : 0 ≤ n := by omega
    have m3 := add3 A (digS n.toNat) B (by have := HN.out hn0; omega)
    have m31 := fun W => (m3 W).1
    have m32 := fun W => (m3 W).2
    clear m3
    have Hrn := Lib.hid (rdAt_back (most := 9223372036854775807) (n := n.toNat) (by omega) (by omega) A B)
    have hnn : ((n.toNat : Nat) : Int) = n := Int.toNat_of_nonneg hn0
    have m5 := HN.out hn0
    refine (put_yes n _ hn0 n1).mono ?_
    rintro e w2 ⟨rfl, hb2⟩
    go_wp2_with fail
    refine (get_any _ _ _ _ _ 0 (by rw [ByteArray.size_append, ByteArray.size_append]; have := HN.out hn0; omega) Hrn.out).mono ?_
    rintro e w0 ⟨rfl, rfl⟩
    go_wp2_with fail
    by_cases hl : 4096 < t.size
    · refine (textS_no t _ hl ht).mono ?_
      rintro e w0 ⟨rfl, rfl⟩
      go_wp2_with fail
      go_ret
      exact ⟨rfl, Below.then hb1 hb2⟩
    · refine (textS_yes t _ (by omega)).mono ?_
      rintro e w3 ⟨rfl, hb3⟩
      have k3 := add3 A (digS t.size ++ t) B (by have := HT.out; omega)
      have k5 : (digS t.size).size + t.size ≤ 5000 := by have := HT.out (by omega); rw [ByteArray.size_append] at this; exact this
      have k31 := fun W => (k3 W).1
      have k32 := fun W => (k3 W).2
      clear k3
      go_wp2_with fail
      refine (gett_any _ _ _ _ _ _ (by rw [ByteArray.size_append, ByteArray.size_append]; have := HT.out; omega) (gtR_back A t B (by omega))).mono ?_
      rintro e w0 ⟨rfl, rfl⟩
      go_wp2_with fail
      go_ret
      exact ⟨rfl, Below.then (Below.then hb1 hb2) hb3⟩
end Go.Proofs.Ytgpifbdjcoiilaa
