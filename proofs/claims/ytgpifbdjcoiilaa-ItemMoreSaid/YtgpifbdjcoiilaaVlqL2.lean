/-
  WALKS of the laws of layer 2: VlqOrder, VlqReads.
-/
import Derived.Test.YtgpifbdjcoiilaaVlqL1
namespace Go.Proofs.Ytgpifbdjcoiilaa
open Go.RowKit

theorem ups_less (a b : Nat) (h : a < b) : ∀ k : Nat, a / 128 ^ (k + 1) = b / 128 ^ (k + 1) → Op.bytesLess (ups a k ++ [lowd a]) (ups b k ++ [lowd b]) = true
  | 0, he => by
    have ha : (lowd a).toNat = a % 128 := u8_ofNat_toNat (by omega)
    have hb : (lowd b).toNat = b % 128 := u8_ofNat_toNat (by omega)
    simp only [Nat.zero_add, Nat.pow_one] at he
    simp only [ups, List.nil_append, Op.bytesLess, Bool.and_false, Bool.or_false, decide_eq_true_eq, UInt8.lt_iff_toNat_lt]
    omega
  | k + 1, he => by
    have da := div_pow_succ' a (k + 1)
    have db := div_pow_succ' b (k + 1)
    have hle : a / 128 ^ (k + 1) ≤ b / 128 ^ (k + 1) := Nat.div_le_div_right (by omega)
    have ha : (UInt8.ofNat (a / 128 ^ (k + 1) % 128 + 128)).toNat = a / 128 ^ (k + 1) % 128 + 128 := u8_ofNat_toNat (by omega)
    have hb : (UInt8.ofNat (b / 128 ^ (k + 1) % 128 + 128)).toNat = b / 128 ^ (k + 1) % 128 + 128 := u8_ofNat_toNat (by omega)
    simp only [ups, List.cons_append, Op.bytesLess, Bool.or_eq_true, decide_eq_true_eq, Bool.and_eq_true, beq_iff_eq, UInt8.lt_iff_toNat_lt, ha, hb]
    by_cases hq : a / 128 ^ (k + 1) = b / 128 ^ (k + 1)
    · right
      exact ⟨by rw [hq], ups_less a b h k hq⟩
    · left; omega

theorem dig_less {a b : Nat} (hb : b < 18446744073709551616) (h : a < b) : (dig a).length < (dig b).length ∨ ((dig a).length = (dig b).length ∧ Op.bytesLess (dig a) (dig b) = true) := by
  rw [dig_length, dig_length]
  have hm := cnt_mono hb (Nat.le_of_lt h)
  rcases Nat.lt_or_eq_of_le hm with h1 | h1
  · left; omega
  · right
    refine ⟨by omega, ?_⟩
    have ha := (cnt_iff (n := a) (by omega) (cnt a)).2 (Nat.le_refl _)
    have hbb := (cnt_iff hb (cnt b)).2 (Nat.le_refl _)
    unfold dig
    rw [h1] at ha ⊢
    exact ups_less a b h (cnt b) (by rw [div_pow_succ', div_pow_succ', Nat.div_eq_of_lt ha, Nat.div_eq_of_lt hbb])

set_option maxHeartbeats 1000000 in
theorem order_walk (a b : Int) (w : World) (a0 : -9223372036854775808 ≤ a) (a1 : a ≤ 9223372036854775807) (b0 : -9223372036854775808 ≤ b) (b1 : b ≤ 9223372036854775807) :
    Calls Try.prog 6 #[.int .i64 a, .int .i64 b] w fun e w' => e = .returned (.bool true) ∧ Below w.heap.size w w' := by
  have hz : (digS (zz 0)).size = 1 := by decide
  by_cases h : a < 0 ∨ b < 0 ∨ a = b
  · by_cases ha : a < 0
    · go_enter Try.func6, Try.ntmps6
      go_wp2_with fail
      refine (signed_any 0 _ (by decide) (by decide)).mono ?_
      rintro e w1 ⟨rfl, hb1⟩
      go_wp2_with fail
      go_ret
      exact ⟨rfl, hb1⟩
    · by_cases hb : b < 0
      · go_enter Try.func6, Try.ntmps6
        go_wp2_with fail
        refine (signed_any 0 _ (by decide) (by decide)).mono ?_
        rintro e w1 ⟨rfl, hb1⟩
        go_wp2_with fail
        go_ret
        exact ⟨rfl, hb1⟩
      · obtain rfl : a = b := by omega
        go_enter Try.func6, Try.ntmps6
        go_wp2_with fail
        refine (signed_any 0 _ (by decide) (by decide)).mono ?_
        rintro e w1 ⟨rfl, hb1⟩
        go_wp2_with fail
        go_ret
        exact ⟨rfl, hb1⟩
  · have ha : 0 ≤ a := by omega
    have hb : 0 ≤ b := by omega
    have hne : (a == b) = false := by simp; omega
    obtain ⟨lo, hlo⟩ : ∃ lo, min a b = lo := ⟨_, rfl⟩
    obtain ⟨hi, hhi⟩ : ∃ hi, max a b = hi := ⟨_, rfl⟩
    have hlt : 0 ≤ lo ∧ lo < hi ∧ hi ≤ 9223372036854775807 := by omega
    have Hl := Lib.hid (dig_less (a := lo.toNat) (b := hi.toNat) (by omega) (by omega))
    obtain ⟨hl0, hl1, hl2⟩ := hlt
    clear hne
    have hne : (a == b) = false := by simp; omega
    go_enter Try.func6, Try.ntmps6
    go_wp2_with fail
    refine (put_yes lo _ hl0 (by omega)).mono ?_
    rintro e w1 ⟨rfl, hb1⟩
    go_wp2_with fail
    refine (put_yes hi _ (by omega) hl2).mono ?_
    rintro e w2 ⟨rfl, hb2⟩
    rcases Hl.out with hs | ⟨he, hs⟩
    · have hs' : (digS lo.toNat).size < (digS hi.toNat).size := by rw [digS_size, digS_size]; exact hs
      go_wp2_with fail
      go_ret
      exact ⟨rfl, Below.then hb1 hb2⟩
    · have he' : (digS lo.toNat).size = (digS hi.toNat).size := by rw [digS_size, digS_size]; exact he
      have hnl : ¬ (digS lo.toNat).size < (digS hi.toNat).size := by omega
      have hs' : Op.bytesLess (digS lo.toNat).toList (digS hi.toNat).toList = true := by rw [ByteArray.toList_eq, ByteArray.toList_eq]; exact hs
      go_wp2_with fail
      go_ret
      exact ⟨rfl, Below.then hb1 hb2⟩

/-- A string's beginning, as short gives it. -/
def shortS (n : Nat) (s : ByteArray) : ByteArray := if n < s.size then s.extract 0 n else s
theorem shortS_size (n : Nat) (s : ByteArray) : (shortS n s).size ≤ n := by
  unfold shortS; split
  · rw [ByteArray.size_extract]; omega
  · omega

set_option maxHeartbeats 1000000 in
theorem reads_walk (s : ByteArray) (p : Int) (w : World) (hs : s.size ≤ 9223372036854775807) :
    Calls Try.prog 7 #[.string s, .int .i64 p] w fun e w' => e = .returned (.bool true) ∧ Below w.heap.size w w' := by
  have hS := shortS_size 6000 s
  have Hshort := Lib.hid (short_any s w hs)
  obtain ⟨S, hSe⟩ : ∃ S, shortS 6000 s = S := ⟨_, rfl⟩
  rw [hSe] at hS
  have HSe := Lib.hid hSe
  clear hSe
  have hS6 : S.size ≤ 140737488355328 := by omega
  have hS6' : S.size ≤ 9223372036854775807 := by omega
  obtain ⟨⟨n, to, er⟩, hg⟩ : ∃ r, getR S.data.toList p = r := ⟨_, rfl⟩
  obtain ⟨⟨n2, to2, er2⟩, hg2⟩ : ∃ r, gsR S.data.toList p = r := ⟨_, rfl⟩
  obtain ⟨⟨x, m, e0⟩, hg3⟩ : ∃ r, gtR S p = r := ⟨_, rfl⟩
  have Hg := Lib.hid hg
  have Hg2 := Lib.hid hg2
  have Hg3 := Lib.hid hg3
  clear hg hg2 hg3
  obtain ⟨u, hu⟩ : ∃ u, unz n2 = u := ⟨_, rfl⟩
  have Hu := Lib.hid hu
  clear hu
  go_enter Try.func7, Try.ntmps7
  go_wp2_with fail
  refine (Hshort.out).mono ?_
  rintro e w0 ⟨rfl, rfl⟩
  rw [show (if 6000 < s.size then s.extract 0 6000 else s) = S from HSe.out]
  go_wp2_with fail
  refine (get_any S p _ n to er hS6' Hg.out).mono ?_
  rintro e w0 ⟨rfl, rfl⟩
  go_wp2_with fail
  refine (rget_any S p _ n to er hS6' Hg.out).mono ?_
  rintro e w0 ⟨rfl, rfl⟩
  go_wp2_with fail
  refine (gets_any S p _ n2 to2 er2 hS6' Hg2.out).mono ?_
  rintro e w0 ⟨rfl, rfl⟩
  rw [Hu.out]
  go_wp2_with fail
  refine (rgets_any S p _ n2 to2 er2 hS6' Hg2.out).mono ?_
  rintro e w0 ⟨rfl, rfl⟩
  rw [Hu.out]
  go_wp2_with fail
  refine (gett_any S p _ x m e0 hS6' Hg3.out).mono ?_
  rintro e w0 ⟨rfl, rfl⟩
  go_wp2_with fail
  refine (rgett_any S p _ x m e0 hS6 Hg3.out).mono ?_
  rintro e w0 ⟨rfl, rfl⟩
  go_wp2_with fail
  refine (signed_any 1 _ (by decide) (by decide)).mono ?_
  rintro e w0 ⟨rfl, hb⟩
  have h2 : ((digS (zz 1)).toList == [2]) = true := by rw [ByteArray.toList_eq]; decide
  go_wp2_with fail
  go_ret
  exact ⟨rfl, hb⟩
end Go.Proofs.Ytgpifbdjcoiilaa
