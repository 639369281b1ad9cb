/-
  WALKS of layer 2: Get, GetSigned, GetText of vlq and of the reference; what they answer, as plain functions.
-/
import Derived.Test.YtgpifbdjcoiilaaVlqW4
import Derived.Outline
namespace Go.Proofs.Ytgpifbdjcoiilaa
open Go.RowKit

theorem rdAt_facts {most : Nat} {l : List UInt8} {p : Int} {n : Nat} {to er : Int} (h : rdAt most l p = (n, to, er)) (hm : most < 18446744073709551616) :
    (er = 0 ∧ n ≤ most ∧ p < to ∧ to ≤ l.length ∧ 0 ≤ p) ∨ (n = 0 ∧ to = 0 ∧ (er = 1 ∨ er = 20 ∨ er = 21)) := by
  unfold rdAt at h
  by_cases h0 : p < 0 ∨ (l.length : Int) < p
  · rw [if_pos h0] at h
    simp only [Prod.mk.injEq] at h
    right; omega
  · rw [if_neg h0] at h
    have he := rd_err most (l.drop p.toNat) 0 0
    obtain ⟨⟨a, k, e⟩, hr⟩ : ∃ r, rd most (l.drop p.toNat) 0 0 = r := ⟨_, rfl⟩
    rw [hr] at h he
    simp only at h
    by_cases h1 : e = 0
    · subst h1
      simp only [if_pos, Prod.mk.injEq] at h
      obtain ⟨rfl, rfl, rfl⟩ := h
      obtain ⟨_, hk, hl, hn⟩ := rd_is_dig hm hr
      rw [dig_length] at hk
      rw [List.length_drop] at hl
      left; omega
    · rw [if_neg h1] at h
      simp only [Prod.mk.injEq] at h
      simp only [Prod.mk.injEq] at he
      right; omega

theorem read_any (s : ByteArray) (p most : Int) (w : World) (n : Nat) (to er : Int) (hs : s.size ≤ 9223372036854775807) (h0 : 127 ≤ most) (h1 : most < 18446744073709551616) (hr : rdAt most.toNat s.data.toList p = (n, to, er)) :
    Calls Try.prog 54 #[.string s, .int .i64 p, .int .u64 most] w fun e w' => e = .returned (.tuple #[.int .u64 n, .int .i64 to, .int .i64 er]) ∧ w = w' := by
  by_cases hp : p < 0 ∨ (s.size : Int) < p
  · have he : rdV most.toNat s p = .tuple #[.int .u64 n, .int .i64 to, .int .i64 er] := by unfold rdV; rw [hr]
    rw [rdV_out hp] at he
    have He := Lib.hid he
    clear he hr
    rcases hp with hp | hp
    · go_enter Try.func54, Try.ntmps54
      go_wp2_with fail
      go_ret3
      exact ⟨congrArg Ending.returned He.out, rfl⟩
    · by_cases hp0 : p < 0
      · go_enter Try.func54, Try.ntmps54
        go_wp2_with fail
        go_ret3
        exact ⟨congrArg Ending.returned He.out, rfl⟩
      · have hd : decide (p < 0) = false := by simpa using hp0
        go_enter Try.func54, Try.ntmps54
        go_wp2_with fail
        go_ret3
        exact ⟨congrArg Ending.returned He.out, rfl⟩
  · obtain ⟨q, rfl⟩ := Int.eq_ofNat_of_zero_le (show 0 ≤ p by omega)
    refine (read_in s q most w (by omega) hs h0 h1).mono ?_
    rintro e w' ⟨rfl, rfl⟩
    exact ⟨by unfold rdV; rw [hr], rfl⟩
theorem rread_any (s : ByteArray) (p most : Int) (w : World) (n : Nat) (to er : Int) (hs : s.size ≤ 9223372036854775807) (h0 : 127 ≤ most) (h1 : most < 18446744073709551616) (hr : rdAt most.toNat s.data.toList p = (n, to, er)) :
    Calls Try.prog 55 #[.string s, .int .i64 p, .int .u64 most] w fun e w' => e = .returned (.tuple #[.int .u64 n, .int .i64 to, .int .i64 er]) ∧ w = w' := by
  by_cases hp : p < 0 ∨ (s.size : Int) < p
  · have he : rdV most.toNat s p = .tuple #[.int .u64 n, .int .i64 to, .int .i64 er] := by unfold rdV; rw [hr]
    rw [rdV_out hp] at he
    have He := Lib.hid he
    clear he hr
    rcases hp with hp | hp
    · go_enter Try.func55, Try.ntmps55
      go_wp2_with fail
      go_ret3
      exact ⟨congrArg Ending.returned He.out, rfl⟩
    · by_cases hp0 : p < 0
      · go_enter Try.func55, Try.ntmps55
        go_wp2_with fail
        go_ret3
        exact ⟨congrArg Ending.returned He.out, rfl⟩
      · have hd : decide (p < 0) = false := by simpa using hp0
        go_enter Try.func55, Try.ntmps55
        go_wp2_with fail
        go_ret3
        exact ⟨congrArg Ending.returned He.out, rfl⟩
  · obtain ⟨q, rfl⟩ := Int.eq_ofNat_of_zero_le (show 0 ≤ p by omega)
    refine (rread_in s q most w (by omega) hs h0 h1).mono ?_
    rintro e w' ⟨rfl, rfl⟩
    exact ⟨by unfold rdV; rw [hr], rfl⟩

/-- What Get answers. -/
def getR (l : List UInt8) (p : Int) : Nat × Int × Int := rdAt 9223372036854775807 l p
/-- What is read of a signed number: which stands for it. -/
def gsR (l : List UInt8) (p : Int) : Nat × Int × Int := rdAt 18446744073709551615 l p
def unz (n : Nat) : Int := if n % 2 = 0 then (n / 2 : Nat) else -((n / 2 : Nat) : Int) - 1
theorem unz_zz (n : Int) : unz (zz n) = n := by
  unfold unz zz
  split <;> split <;> omega
theorem zz_unz (n : Nat) : zz (unz n) = n := by
  unfold unz zz
  split <;> split <;> omega
theorem unz_rng {n : Nat} (h : n < 18446744073709551616) : -9223372036854775808 ≤ unz n ∧ unz n ≤ 9223372036854775807 := by
  unfold unz; split <;> omega

set_option maxHeartbeats 400000 in
theorem get_any (s : ByteArray) (p : Int) (w : World) (n : Nat) (to er : Int) (hs : s.size ≤ 9223372036854775807) (hr : getR s.data.toList p = (n, to, er)) :
    Calls Try.prog 25 #[.string s, .int .i64 p] w fun e w' => e = .returned (.tuple #[.int .i64 n, .int .i64 to, .int .i64 er]) ∧ w = w' := by
  have hn : (n : Int) ≤ 9223372036854775807 := by
    rcases rdAt_facts hr (by decide) with h | h <;> omega
  have Hr := Lib.hid hr
  clear hr
  go_enter Try.func25, Try.ntmps25
  go_wp2_with fail
  refine (read_any s p 9223372036854775807 _ n to er hs (by decide) (by decide) Hr.out).mono ?_
  rintro e w' ⟨rfl, rfl⟩
  go_wp2_with fail
  go_ret3
  exact ⟨rfl, rfl⟩
set_option maxHeartbeats 400000 in
theorem rget_any (s : ByteArray) (p : Int) (w : World) (n : Nat) (to er : Int) (hs : s.size ≤ 9223372036854775807) (hr : getR s.data.toList p = (n, to, er)) :
    Calls Try.prog 28 #[.string s, .int .i64 p] w fun e w' => e = .returned (.tuple #[.int .i64 n, .int .i64 to, .int .i64 er]) ∧ w = w' := by
  have hn : (n : Int) ≤ 9223372036854775807 := by
    rcases rdAt_facts hr (by decide) with h | h <;> omega
  have Hr := Lib.hid hr
  clear hr
  go_enter Try.func28, Try.ntmps28
  go_wp2_with fail
  refine (rread_any s p 9223372036854775807 _ n to er hs (by decide) (by decide) Hr.out).mono ?_
  rintro e w' ⟨rfl, rfl⟩
  go_wp2_with fail
  go_ret3
  exact ⟨rfl, rfl⟩
theorem xor_unz (n : Nat) (h : (n : Int) < 18446744073709551616) : bits .xor .i64 ((n : Int) / 2) (wrap64 (-wrap64 (bits .and .u64 (n : Int) 1))) = unz n := by
  rw [Lib.u64_and1 _ (by omega) h]
  unfold unz
  by_cases h2 : n % 2 = 0
  · rw [if_pos h2, show (n : Int) % 2 = 0 by omega]
    have e : wrap64 (-wrap64 0) = 0 := by decide +kernel
    rw [e, show (n : Int) / 2 = ((n / 2 : Nat) : Int) by omega]
    have hx : (BitVec.ofInt 64 ((n / 2 : Nat) : Int) ^^^ BitVec.ofInt 64 0).toNat = n / 2 := by
      rw [show BitVec.ofInt 64 0 = 0#64 by rfl, BitVec.xor_zero, BitVec.ofInt_natCast, BitVec.toNat_ofNat, Nat.mod_eq_of_lt (by omega)]
    show IntKind.i64.wrap (((BitVec.ofInt 64 ((n / 2 : Nat) : Int) ^^^ BitVec.ofInt 64 0).toNat : Nat) : Int) = _
    rw [hx, IntKind.wrap_i64]; omega
  · rw [if_neg h2, show (n : Int) % 2 = 1 by omega]
    have e : wrap64 (-wrap64 1) = -1 := by decide +kernel
    rw [e, show (n : Int) / 2 = ((n / 2 : Nat) : Int) by omega]
    have hc : bits .xor .i64 ((n / 2 : Nat) : Int) (-1) = bits .xor .i64 (-1) ((n / 2 : Nat) : Int) := by
      simp only [bits]; rw [BitVec.xor_comm]
    rw [hc, Lib.i64_not _ (by omega)]
set_option maxHeartbeats 400000 in
theorem gets_any (s : ByteArray) (p : Int) (w : World) (n : Nat) (to er : Int) (hs : s.size ≤ 9223372036854775807) (hr : gsR s.data.toList p = (n, to, er)) :
    Calls Try.prog 23 #[.string s, .int .i64 p] w fun e w' => e = .returned (.tuple #[.int .i64 (unz n), .int .i64 to, .int .i64 er]) ∧ w = w' := by
  have hn : (n : Int) < 18446744073709551616 := by
    rcases rdAt_facts hr (by decide) with h | h <;> omega
  have Hr := Lib.hid hr
  clear hr
  obtain ⟨N, hN⟩ : ∃ N : Int, N = n := ⟨_, rfl⟩
  rw [← hN] at hn
  have hN0 : 0 ≤ N := by omega
  have HN := Lib.hid hN
  go_enter Try.func23, Try.ntmps23
  go_wp2_with fail
  refine (read_any s p 18446744073709551615 _ n to er hs (by decide) (by decide) Hr.out).mono ?_
  rintro e w' ⟨rfl, rfl⟩
  rw [← hN]
  clear hN
  have hx := xor_unz n (by rw [HN.out] at hn; exact hn)
  rw [← HN.out] at hx
  have Hx := Lib.hid hx
  clear hx
  go_wp2_with fail
  go_ret3
  exact ⟨ret3 Hx.out rfl rfl, rfl⟩
set_option maxHeartbeats 400000 in
theorem unfolded_any (n : Nat) (w : World) (h1 : (n : Int) < 18446744073709551616) :
    Calls Try.prog 56 #[.int .u64 n] w fun e w' => e = .returned (.int .i64 (unz n)) ∧ w = w' := by
  obtain ⟨N, hN⟩ : ∃ N : Int, N = n := ⟨_, rfl⟩
  rw [← hN] at h1 ⊢
  have hN0 : 0 ≤ N := by omega
  by_cases h2 : N % 2 = 0
  · have hb : (N % 2 == 0) = true := by simpa using h2
    have e : unz n = N / 2 := by unfold unz; rw [if_pos (by omega)]; omega
    have E := Lib.hid e
    clear e hN h2
    go_enter Try.func56, Try.ntmps56
    go_wp2_with fail
    go_ret
    exact ⟨congrArg (fun x => Ending.returned (Value.int .i64 x)) E.out.symm, rfl⟩
  · have hb : (N % 2 == 0) = false := by simpa using h2
    have e : unz n = -(N / 2) - 1 := by unfold unz; rw [if_neg (by omega)]; omega
    have E := Lib.hid e
    clear e hN h2
    go_enter Try.func56, Try.ntmps56
    go_wp2_with fail
    go_ret
    exact ⟨congrArg (fun x => Ending.returned (Value.int .i64 x)) E.out.symm, rfl⟩
set_option maxRecDepth 100000 in
set_option maxHeartbeats 400000 in
theorem rgets_any (s : ByteArray) (p : Int) (w : World) (n : Nat) (to er : Int) (hs : s.size ≤ 9223372036854775807) (hr : gsR s.data.toList p = (n, to, er)) :
    Calls Try.prog 29 #[.string s, .int .i64 p] w fun e w' => e = .returned (.tuple #[.int .i64 (unz n), .int .i64 to, .int .i64 er]) ∧ w = w' := by
  have hf := rdAt_facts hr (by decide)
  have hn : (n : Int) < 18446744073709551616 := by
    rcases hf with h | h <;> omega
  have hz : er = 0 ∨ (unz n = 0 ∧ to = 0 ∧ er ≠ 0) := by
    rcases hf with h | ⟨rfl, h, h'⟩
    · exact Or.inl h.1
    · right; exact ⟨rfl, h, by omega⟩
  have Hr := Lib.hid hr
  clear hr hf
  rcases hz with rfl | ⟨hz1, hz2, hz3⟩
  · go_enter Try.func29, Try.ntmps29
    go_wp2_with fail
    refine (rread_any s p 18446744073709551615 _ n to 0 hs (by decide) (by decide) Hr.out).mono ?_
    rintro e w' ⟨rfl, rfl⟩
    go_wp2_with fail
    refine (unfolded_any n _ hn).mono ?_
    rintro e w' ⟨rfl, rfl⟩
    go_wp2_with fail
    go_ret3
    exact ⟨rfl, rfl⟩
  · have Hz1 := Lib.hid hz1
    have Hz2 := Lib.hid hz2
    have hb : (er == 0) = false := by simpa using hz3
    clear hz1 hz2 hn
    go_enter Try.func29, Try.ntmps29
    go_wp2_with fail
    refine (rread_any s p 18446744073709551615 _ n to er hs (by decide) (by decide) Hr.out).mono ?_
    rintro e w' ⟨rfl, rfl⟩
    go_wp2_with fail
    go_ret3
    exact ⟨ret3 Hz1.out.symm Hz2.out.symm rfl, rfl⟩
end Go.Proofs.Ytgpifbdjcoiilaa
