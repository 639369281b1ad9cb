/-
  WALKS of the laws of layer 2: VlqCuts, VlqOrder, VlqWrites, VlqReads.
-/
import Derived.Test.YtgpifbdjcoiilaaVlqW7
import Derived.Lib.IndexBytes
import Derived.Outline
namespace Go.Proofs.Ytgpifbdjcoiilaa
open Go.RowKit

theorem data_extract (s : ByteArray) (a b : Nat) : (s.extract a b).data.toList = (s.data.toList.drop a).take (b - a) := by
  rw [ByteArray.data_extract, Array.toList_extract]
theorem digS_data (n : Nat) : (digS n).data.toList = dig n := rfl

/-- An index that wraps round: (x % L + L) % L. -/
theorem ring_ix (x : Int) (L : Nat) (h : 0 < L) (hL : (L : Int) ≤ 4611686018427387904) : ∃ K : Nat, K < L ∧ (wrap64 (x.tmod L + L)).tmod L = (K : Int) := by
  have h1 := Int.tmod_lt_of_pos x (b := (L : Int)) (by omega)
  have h2 := Int.lt_tmod_of_pos x (b := (L : Int)) (by omega)
  have hw : wrap64 (x.tmod L + L) = x.tmod L + L := by
    generalize x.tmod L = y at *; unfold wrap64; omega
  rw [hw]
  have h3 : 0 ≤ x.tmod L + L := by omega
  refine ⟨((x.tmod L + L).tmod L).toNat, ?_, ?_⟩
  · have := Int.tmod_lt_of_pos (x.tmod L + L) (b := (L : Int)) (by omega)
    have := Int.tmod_nonneg (L : Int) h3
    omega
  · have := Int.tmod_nonneg (L : Int) h3
    omega

set_option maxHeartbeats 400000 in
theorem cuts_walk (n at_ : Int) (w : World) (h0 : -9223372036854775808 ≤ n) (h1 : n ≤ 9223372036854775807) :
    Calls Try.prog 4 #[.int .i64 n, .int .i64 at_] w fun e w' => e = .returned (.bool true) ∧ Below w.heap.size w w' := by
  have hL : (digS (zz n)).size = cnt (zz n) + 1 := by rw [digS_size, dig_length]
  have hc := cnt_le (zz_lt h0 h1)
  have hL1 : 1 ≤ (digS (zz n)).size := by omega
  have hL2 : (digS (zz n)).size ≤ 10 := by omega
  obtain ⟨K, hKlt, hK⟩ := ring_ix at_ (digS (zz n)).size (by omega) (by omega)
  have hcut : gsR ((digS (zz n)).extract 0 K).data.toList 0 = (0, 0, 20) := by
    unfold gsR rdAt
    rw [if_neg (by omega), data_extract, digS_data]
    simp only [Int.toNat_zero, List.drop_zero, Nat.sub_zero]
    rw [rd_dig_cut 18446744073709551615 (zz_lt h0 h1) (Nat.le_of_lt_succ (zz_lt h0 h1)) (by rw [← digS_size]; exact hKlt)]
    rfl
  have Hcut := Lib.hid hcut
  have hb : (((digS (zz n)).size : Int) == 0) = false := beq_eq_false_iff_ne.2 (by omega)
  have hes : ((digS (zz n)).extract 0 K).size ≤ 9223372036854775807 := by
    have : K ≤ 10 := by omega
    rw [ByteArray.size_extract]; exact Nat.le_trans (Nat.sub_le _ _) (Nat.le_trans (Nat.min_le_left _ _) (by omega))
  have Hes := Lib.hid hes
  clear hL hc hcut hes
  go_enter Try.func4, Try.ntmps4
  go_wp2_with fail
  refine (signed_any n _ h0 h1).mono ?_
  rintro e w1 ⟨rfl, hb1⟩
  go_wp2_with fail
  refine (gets_any _ _ _ 0 0 20 Hes.out Hcut.out).mono ?_
  rintro e w2 ⟨rfl, rfl⟩
  go_wp2_with fail
  go_ret
  exact ⟨rfl, hb1⟩

/-- A chain of steps each of which leaves what lay below as it was. -/
theorem Below.then {w a b : World} (h : Below w.heap.size w a) (k : Below a.heap.size a b) : Below w.heap.size w b := h.trans (k.mono h.size)

set_option maxHeartbeats 1000000 in
theorem writes_walk (n : Int) (s : ByteArray) (w : World) (h0 : -9223372036854775808 ≤ n) (h1 : n ≤ 9223372036854775807) (hs : s.size ≤ 9223372036854775807) :
    Calls Try.prog 8 #[.int .i64 n, .string s] w fun e w' => e = .returned (.bool true) ∧ Below w.heap.size w w' := by
  obtain ⟨⟨t, e0⟩, ht⟩ : ∃ r, txtR s = r := ⟨_, rfl⟩
  have Ht := Lib.hid ht
  clear ht
  by_cases hn : n < 0
  · go_enter Try.func8, Try.ntmps8
    go_wp2_with fail
    refine (put_no n _ hn).mono ?_
    rintro e w1 ⟨rfl, rfl⟩
    go_wp2_with fail
    refine (textS_any s _ t e0 hs Ht.out).mono ?_
    rintro e w2 ⟨rfl, hb2⟩
    go_wp2_with fail
    refine (rtext_any s _ t e0 hs Ht.out).mono ?_
    rintro e w3 ⟨rfl, hb3⟩
    go_wp2_with fail
    refine (signed_any n _ h0 h1).mono ?_
    rintro e w4 ⟨rfl, hb4⟩
    go_wp2_with fail
    refine (folded_any n _ h0 h1).mono ?_
    rintro e w5 ⟨rfl, rfl⟩
    go_wp2_with fail
    refine (digits_any (zz n) _ (by omega) (by have := zz_lt h0 h1; omega)).mono ?_
    rintro e w6 ⟨rfl, hb6⟩
    rw [Int.toNat_natCast]
    go_wp2_with fail
    go_ret
    exact ⟨rfl, Below.then (Below.then (Below.then hb2 hb3) hb4) hb6⟩
  · have hn0 : 0 ≤ n := by omega
    go_enter Try.func8, Try.ntmps8
    go_wp2_with fail
    refine (put_yes n _ hn0 h1).mono ?_
    rintro e w1 ⟨rfl, hb1⟩
    go_wp2_with fail
    refine (digits_any n _ hn0 (by omega)).mono ?_
    rintro e w1' ⟨rfl, hb1'⟩
    go_wp2_with fail
    refine (textS_any s _ t e0 hs Ht.out).mono ?_
    rintro e w2 ⟨rfl, hb2⟩
    go_wp2_with fail
    refine (rtext_any s _ t e0 hs Ht.out).mono ?_
    rintro e w3 ⟨rfl, hb3⟩
    go_wp2_with fail
    refine (signed_any n _ h0 h1).mono ?_
    rintro e w4 ⟨rfl, hb4⟩
    go_wp2_with fail
    refine (folded_any n _ h0 h1).mono ?_
    rintro e w5 ⟨rfl, rfl⟩
    go_wp2_with fail
    refine (digits_any (zz n) _ (by omega) (by have := zz_lt h0 h1; omega)).mono ?_
    rintro e w6 ⟨rfl, hb6⟩
    rw [Int.toNat_natCast]
    go_wp2_with fail
    go_ret
    exact ⟨rfl, Below.then (Below.then (Below.then (Below.then (Below.then hb1 hb1') hb2) hb3) hb4) hb6⟩
end Go.Proofs.Ytgpifbdjcoiilaa
