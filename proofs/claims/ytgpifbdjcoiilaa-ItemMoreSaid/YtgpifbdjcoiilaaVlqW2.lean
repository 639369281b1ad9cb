/-
  WALKS of layer 2: text, Put, Signed, Text of vlq.
-/
import Derived.Test.YtgpifbdjcoiilaaVlqW1
import Derived.Lib.Zigzag
namespace Go.Proofs.Ytgpifbdjcoiilaa
open Go.RowKit

theorem builder_new (w : World) : Lib.IsBuilder 92 5 w.heap.size w.heap.size (Lib.byteCells []) (w.alloc (.cells #[.pointer none, .slice none 0 0] 92)) := by
  refine Or.inl ⟨Nat.le_refl _, .slice none 0 0, ?_, World.ownsRow_nil _ _ _ _, by simp [Value.ownBlock]⟩
  exact heap_alloc_new _ _

/-- The bytes of a number, as a string. -/
def digS (n : Nat) : ByteArray := ⟨(dig n).toArray⟩
theorem digS_size (n : Nat) : (digS n).size = (dig n).length := by simp [digS, ByteArray.size]

set_option maxHeartbeats 1000000 in
theorem text_any (n : Int) (w : World) (h0 : 0 ≤ n) (h1 : n < 18446744073709551616) :
    Calls Try.prog 53 #[.int .u64 n] w fun e w' => e = .returned (.string (digS n.toNat)) ∧ Below w.heap.size w w' := by
  go_enter Try.func53, Try.ntmps53
  go_wp2_with fail
  refine (write_any n [] w.heap.size w.heap.size _ h0 h1 (builder_new w) (by decide) (by simp)).mono ?_
  rintro e w1 ⟨rfl, hb1, hbel1⟩
  have hz := hbel1.size
  go_wp2_with fail
  refine (Try.Builder_String_any w.heap.size w.heap.size _ _ hb1 (by simp at hz; omega)).mono ?_
  rintro e w2 ⟨rfl, hbel2⟩
  go_wp2_with fail
  go_ret
  exact ⟨rfl, (((Below.refl _ _).alloc (Nat.le_refl _) _).trans hbel1).trans hbel2⟩

set_option maxHeartbeats 400000 in
theorem put_yes (n : Int) (w : World) (h0 : 0 ≤ n) (h1 : n ≤ 9223372036854775807) :
    Calls Try.prog 24 #[.int .i64 n] w fun e w' => e = .returned (.tuple #[.string (digS n.toNat), .int .i64 0]) ∧ Below w.heap.size w w' := by
  go_enter Try.func24, Try.ntmps24
  go_wp2_with fail
  refine (text_any _ _ (by omega) (by omega)).mono ?_
  rintro e w1 ⟨rfl, hb1⟩
  go_wp2_with fail
  go_ret2
  exact ⟨rfl, hb1⟩
theorem put_no (n : Int) (w : World) (h0 : n < 0) :
    Calls Try.prog 24 #[.int .i64 n] w fun e w' => e = .returned (.tuple #[.string ⟨#[]⟩, .int .i64 1]) ∧ w = w' := by
  go_enter Try.func24, Try.ntmps24
  go_wp2_with fail
  go_ret2
  exact ⟨rfl, rfl⟩

set_option maxHeartbeats 400000 in
theorem textS_no (s : ByteArray) (w : World) (h : 4096 < s.size) (hs : s.size ≤ 9223372036854775807) :
    Calls Try.prog 26 #[.string s] w fun e w' => e = .returned (.tuple #[.string ⟨#[]⟩, .int .i64 2]) ∧ w = w' := by
  go_enter Try.func26, Try.ntmps26
  go_wp2_with fail
  go_ret2
  exact ⟨rfl, rfl⟩
set_option maxHeartbeats 400000 in
theorem textS_yes (s : ByteArray) (w : World) (h : s.size ≤ 4096) :
    Calls Try.prog 26 #[.string s] w fun e w' => e = .returned (.tuple #[.string (digS s.size ++ s), .int .i64 0]) ∧ Below w.heap.size w w' := by
  have hc := cnt_le (n := s.size) (by omega)
  have hd : (digS s.size).size ≤ 10 := by rw [digS_size, dig_length]; omega
  have hadd := fun W => run_string_add_sum (P := Try.prog) W (digS s.size) s (by omega)
  clear hc hd
  go_enter Try.func26, Try.ntmps26
  go_wp2_with fail
  refine (text_any _ _ (by omega) (by omega)).mono ?_
  rintro e w1 ⟨rfl, hb1⟩
  rw [Int.toNat_natCast]
  go_wp2_with fail
  go_ret2
  exact ⟨rfl, hb1⟩
/-- The number of 0 or more that stands for any one. -/
def zz (n : Int) : Nat := if 0 ≤ n then (2 * n).toNat else (-2 * n - 1).toNat
theorem zz_lt {n : Int} (h0 : -9223372036854775808 ≤ n) (h1 : n ≤ 9223372036854775807) : zz n < 18446744073709551616 := by
  unfold zz; split <;> omega
theorem zz_xor (n : Int) (h0 : -9223372036854775808 ≤ n) (h1 : n ≤ 9223372036854775807) :
    bits .xor .u64 (IntKind.u64.wrap (wrap64 (n * 2))) (IntKind.u64.wrap (n / 9223372036854775808)) = ((zz n : Nat) : Int) := by
  have e1 : IntKind.u64.wrap (wrap64 (n * 2)) = (n * 2) % 18446744073709551616 := by
    rw [IntKind.wrap_u64]; unfold wrap64; omega
  rw [e1, IntKind.wrap_u64]
  unfold zz
  by_cases h : 0 ≤ n
  · rw [if_pos h]
    obtain ⟨a, rfl⟩ := Int.eq_ofNat_of_zero_le h
    have e2 : ((a : Int) / 9223372036854775808) % 18446744073709551616 = ((0 : Nat) : Int) := by omega
    have e3 : (a : Int) * 2 % 18446744073709551616 = ((2 * a : Nat) : Int) := by omega
    rw [e2, e3, bits_xor_u64_nat _ _ (by omega) (by omega), Nat.xor_zero]; omega
  · rw [if_neg h]
    have e2 : (n / 9223372036854775808) % 18446744073709551616 = ((2 ^ 64 - 1 : Nat) : Int) := by
      have : n / 9223372036854775808 = -1 := by omega
      rw [this]; decide
    have e3 : n * 2 % 18446744073709551616 = (((n * 2 + 18446744073709551616).toNat : Nat) : Int) := by omega
    rw [e2, e3, bits_xor_u64_nat _ _ (by omega) (by decide), Nat.xor_comm, Lib.xor_ones64 _ (by omega)]
    omega
set_option maxHeartbeats 400000 in
theorem signed_any (n : Int) (w : World) (h0 : -9223372036854775808 ≤ n) (h1 : n ≤ 9223372036854775807) :
    Calls Try.prog 22 #[.int .i64 n] w fun e w' => e = .returned (.string (digS (zz n))) ∧ Below w.heap.size w w' := by
  go_enter Try.func22, Try.ntmps22
  go_wp2_with fail
  rw [zz_xor n h0 h1]
  refine (text_any _ _ (by omega) (by have := zz_lt h0 h1; omega)).mono ?_
  rintro e w1 ⟨rfl, hb1⟩
  rw [Int.toNat_natCast]
  go_wp2_with fail
  go_ret
  exact ⟨rfl, hb1⟩
end Go.Proofs.Ytgpifbdjcoiilaa
