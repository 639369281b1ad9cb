/-
  WALKS of layer 3: Sum of seal and of the reference.
-/
import Derived.Test.YtgpifbdjcoiilaaSealPlain
import Derived.Test.YtgpifbdjcoiilaaVlqL4
namespace Go.Proofs.Ytgpifbdjcoiilaa
open Go.RowKit

theorem xor_u32 (x y : Int) (hx0 : 0 ≤ x) (hx : x < 4294967296) (hy0 : 0 ≤ y) (hy : y < 4294967296) : bits .xor .u32 x y = ((x.toNat ^^^ y.toNat : Nat) : Int) := by
  obtain ⟨a, rfl⟩ := Int.eq_ofNat_of_zero_le hx0
  obtain ⟨b, rfl⟩ := Int.eq_ofNat_of_zero_le hy0
  have hlt : a ^^^ b < 2 ^ 32 := Nat.xor_lt_two_pow (by omega) (by omega)
  have ha : (BitVec.ofInt 32 (a : Int)).toNat = a := by rw [BitVec.ofInt_natCast, BitVec.toNat_ofNat, Nat.mod_eq_of_lt (by omega)]
  have hb : (BitVec.ofInt 32 (b : Int)).toNat = b := by rw [BitVec.ofInt_natCast, BitVec.toNat_ofNat, Nat.mod_eq_of_lt (by omega)]
  show IntKind.u32.wrap (((BitVec.ofInt 32 (a : Int) ^^^ BitVec.ofInt 32 (b : Int)).toNat : Nat) : Int) = _
  rw [BitVec.toNat_xor, ha, hb, IntKind.wrap_u32, Int.toNat_natCast, Int.toNat_natCast]
  omega
theorem stp_word (Y : Int) (h0 : 0 ≤ Y) (h1 : Y < 4294967296) : bits .xor .u32 (Y * 2 % 4294967296) (79764919 * (Y / 2147483648)) = ((stp Y.toNat 0 : Nat) : Int) := by
  rw [xor_u32 _ _ (by omega) (by omega) (by omega) (by omega)]
  unfold stp
  congr 2
  · omega
  · split <;> omega

/-- What holds at the head of Sum's loop: the register stands for the bytes so far. -/
def SmRel (s : ByteArray) (c i : Value) : Prop :=
  ∃ (k : Nat) (X : Int), k ≤ s.size ∧ i = .int .i64 k ∧ c = .int .u32 X ∧ 0 ≤ X ∧ X < 4294967296 ∧ X.toNat = crc (s.data.toList.take k)
/-- .. of its inner loop. -/
def SmIn (x : Nat) (c i : Value) : Prop :=
  ∃ (j : Nat) (Y : Int), j ≤ 8 ∧ i = .int .i64 j ∧ c = .int .u32 Y ∧ 0 ≤ Y ∧ Y < 4294967296 ∧ Y.toNat = stepsP x j
theorem take_snoc' (s : ByteArray) (k : Nat) (h : k < s.size) : s.data.toList.take (k + 1) = s.data.toList.take k ++ [s[k]] := by
  rw [List.take_succ_eq_append_getElem (by rw [len_data]; exact h)]; rfl

set_option maxRecDepth 100000 in
set_option maxHeartbeats 1000000 in
theorem sum_any (s : ByteArray) (w : World) (hs : s.size ≤ 9223372036854775807) :
    Calls Try.prog 37 #[.string s] w fun e w' => e = .returned (.int .u32 (crc s.data.toList)) ∧ w = w' := by
  go_enter Try.func37, Try.ntmps37
  go_wp2_with fail
  go_loop [3, 7] (fun c i => SmRel s c i) (fun _ i => s.size - (intOf i).toNat)
  case atStart => exact ⟨0, 4294967295, by omega, rfl, rfl, by decide, by decide, rfl⟩
  case round =>
    obtain ⟨k, X, hk, rfl, rfl, hX0, hX1, hX⟩ := hrel
    have HX := Lib.hid hX
    clear hX
    by_cases hlt : k < s.size
    · obtain ⟨c, hc⟩ : ∃ c, s[k] = c := ⟨_, rfl⟩
      have hc0 : (c.toNat : Int) < 256 := by have := c.toNat_lt; omega
      obtain ⟨Z, hZ⟩ : ∃ Z, bits .xor .u32 X ((c.toNat : Int) * 16777216) = Z := ⟨_, rfl⟩
      have hZe : Z = ((X.toNat ^^^ (c.toNat * 16777216) : Nat) : Int) := by
        rw [← hZ, xor_u32 _ _ hX0 hX1 (by omega) (by omega)]
        congr 2
      have hxl : X.toNat ^^^ (c.toNat * 16777216) < 2 ^ 32 := Nat.xor_lt_two_pow (by omega) (by omega)
      have hZ0 : 0 ≤ Z := by rw [hZe]; exact Int.natCast_nonneg _
      have hZ1 : Z < 4294967296 := by rw [hZe]; omega
      have HZe := Lib.hid hZe
      clear hZe hxl
      go_wp2_with fail
      go_loop [3, 17] (fun c i => SmIn Z.toNat c i) (fun _ i => 8 - (intOf i).toNat)
      case atStart => exact ⟨0, Z, by omega, rfl, rfl, hZ0, hZ1, rfl⟩
      case round =>
        obtain ⟨j, Y, hj, rfl, rfl, hY0, hY1, hY⟩ := hrel
        have HY := Lib.hid hY
        clear hY
        by_cases hj8 : j < 8
        · obtain ⟨V, hV⟩ : ∃ V, bits .xor .u32 (Y * 2 % 4294967296) (79764919 * (Y / 2147483648)) = V := ⟨_, rfl⟩
          have hVe : V = ((stp Y.toNat 0 : Nat) : Int) := by rw [← hV, stp_word Y hY0 hY1]
          have HVe := Lib.hid hVe
          clear hVe
          go_wp2_with fail
          go_round
          case rel =>
            have hlt' := stp_lt Y.toNat 0
            have hve := HVe.out
            exact ⟨j + 1, V, by omega, by go_num, rfl, by omega, by omega, by rw [hve, Int.toNat_natCast, HY.out]; rfl⟩
          case measure => simp [intOf]; omega
        · go_wp2_with fail
          go_round
          case rel =>
            have hj' : j = 8 := by omega
            refine ⟨k + 1, Y, by omega, by go_num, rfl, hY0, hY1, ?_⟩
            rw [HY.out, hj', HZe.out, Int.toNat_natCast, take_snoc' s k hlt, crc_snoc, hc, crcB_prog (by omega) c.toNat_lt, HX.out]
          case measure => simp [intOf]; omega
    · have hke : k = s.size := by omega
      have Hke := Lib.hid hke
      clear hke
      go_wp2_with fail
      go_ret
      refine ⟨ret1 ?_, rfl⟩
      have h := HX.out
      rw [Hke.out, List.take_of_length_le (by rw [len_data]; exact Nat.le_refl _)] at h
      omega

/-- .. of the reference's inner loop: the bits from 7 down to j. -/
def RsIn (r c : Nat) (x i : Value) : Prop :=
  ∃ (j : Nat) (Y : Int), j ≤ 8 ∧ i = .int .i64 (7 - (j : Int)) ∧ x = .int .u32 Y ∧ 0 ≤ Y ∧ Y < 4294967296 ∧ Y.toNat = steps r c j
set_option maxRecDepth 100000 in
set_option maxHeartbeats 1000000 in
theorem rsum_any (s : ByteArray) (w : World) (hs : s.size ≤ 9223372036854775807) :
    Calls Try.prog 42 #[.string s] w fun e w' => e = .returned (.int .u32 (crc s.data.toList)) ∧ w = w' := by
  go_enter Try.func42, Try.ntmps42
  go_wp2_with fail
  go_loop [3, 4] (fun c i => SmRel s c i) (fun _ i => s.size - (intOf i).toNat)
  case atStart => exact ⟨0, 4294967295, by omega, rfl, rfl, by decide, by decide, rfl⟩
  case round =>
    obtain ⟨k, X, hk, rfl, rfl, hX0, hX1, hX⟩ := hrel
    have HX := Lib.hid hX
    clear hX
    by_cases hlt : k < s.size
    · obtain ⟨c, hc⟩ : ∃ c, s[k] = c := ⟨_, rfl⟩
      have hc0 : (c.toNat : Int) < 256 := by have := c.toNat_lt; omega
      go_wp2_with fail
      go_loop [3, 5] (fun x i => RsIn X.toNat c.toNat x i) (fun _ i => (intOf i + 1).toNat)
      case atStart => exact ⟨0, X, by omega, by simp, rfl, hX0, hX1, rfl⟩
      case round =>
        obtain ⟨j, Y, hj, rfl, rfl, hY0, hY1, hY⟩ := hrel
        have HY := Lib.hid hY
        clear hY
        by_cases hj8 : j < 8
        · obtain ⟨b, hb⟩ : ∃ b, c.toNat / 2 ^ (7 - j) % 2 = b := ⟨_, rfl⟩
          have hq : ((c.toNat : Int) / 2 ^ (7 - j)).tmod 2 = (b : Int) := by
            rw [Int.tmod_eq_emod_of_nonneg (Int.ediv_nonneg (by omega) (Int.le_of_lt (Int.pow_pos (by decide)))), ← hb]
            push_cast; rfl
          have Hb := Lib.hid hb
          clear hb
          by_cases ht : Y / 2147483648 = (b : Int)
          · have hn : (Y / 2147483648 != (b : Int)) = false := by simpa using ht
            have hst : stp Y.toNat b = Y.toNat * 2 % 4294967296 := xor_zero_of _ _ (by omega)
            have Hst := Lib.hid hst
            clear hst ht
            go_wp2_with fail
            go_round
            case rel =>
              refine ⟨j + 1, _, by omega, congrArg (Value.int .i64) (by push_cast; omega), rfl, by omega, by omega, ?_⟩
              have : steps X.toNat c.toNat (j + 1) = stp Y.toNat b := by show stp _ _ = _; rw [Hb.out, HY.out]
              rw [this, Hst.out]; omega
            case measure => simp [intOf]; omega
          · have hn : (Y / 2147483648 != (b : Int)) = true := by simpa using ht
            obtain ⟨V, hV⟩ : ∃ V, bits .xor .u32 (Y * 2 % 4294967296) 79764919 = V := ⟨_, rfl⟩
            have hVe : V = ((stp Y.toNat b : Nat) : Int) := by
              rw [← hV, xor_u32 _ _ (by omega) (by omega) (by decide) (by decide)]
              unfold stp
              rw [if_neg (by omega)]
              congr 2
              omega
            have HVe := Lib.hid hVe
            clear hVe ht
            go_wp2_with fail
            go_round
            case rel =>
              have hlt' := stp_lt Y.toNat b
              have hve := HVe.out
              refine ⟨j + 1, V, by omega, congrArg (Value.int .i64) (by push_cast; omega), rfl, by omega, by omega, ?_⟩
              have : steps X.toNat c.toNat (j + 1) = stp Y.toNat b := by show stp _ _ = _; rw [Hb.out, HY.out]
              rw [this, hve, Int.toNat_natCast]
            case measure => simp [intOf]; omega
        · go_wp2_with fail
          go_round
          case rel =>
            have hj' : j = 8 := by omega
            refine ⟨k + 1, Y, by omega, by go_num, rfl, hY0, hY1, ?_⟩
            rw [HY.out, hj', take_snoc' s k hlt, crc_snoc, hc, HX.out]; rfl
          case measure => simp [intOf]; omega
    · have hke : k = s.size := by omega
      have Hke := Lib.hid hke
      clear hke
      go_wp2_with fail
      go_ret
      refine ⟨ret1 ?_, rfl⟩
      have h := HX.out
      rw [Hke.out, List.take_of_length_le (by rw [len_data]; exact Nat.le_refl _)] at h
      omega
end Go.Proofs.Ytgpifbdjcoiilaa
