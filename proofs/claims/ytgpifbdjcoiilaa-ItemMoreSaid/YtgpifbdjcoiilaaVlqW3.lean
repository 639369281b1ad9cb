/-
  WALKS of layer 2: read, Get, GetSigned, GetText of vlq and of the reference.
-/
import Derived.Test.YtgpifbdjcoiilaaVlqW2
import Derived.Outline
namespace Go.Proofs.Ytgpifbdjcoiilaa
open Go.RowKit

/-- What read answers, as a value. -/
def rdV (most : Nat) (s : ByteArray) (p : Int) : Value := .tuple #[.int .u64 (rdAt most s.data.toList p).1, .int .i64 (rdAt most s.data.toList p).2.1, .int .i64 (rdAt most s.data.toList p).2.2]
theorem len_data (s : ByteArray) : s.data.toList.length = s.size := Array.length_toList
theorem rdV_err {most : Nat} {s : ByteArray} {p : Nat} {E : Int} (hp : p ≤ s.size) (h : rd most (s.data.toList.drop p) 0 0 = (0, 0, E)) (hE : E ≠ 0) :
    rdV most s p = .tuple #[.int .u64 0, .int .i64 0, .int .i64 E] := by
  unfold rdV rdAt
  rw [if_neg (by rw [len_data]; omega)]
  simp [h, hE]
theorem rdV_ok {most : Nat} {s : ByteArray} {p n k : Nat} (hp : p ≤ s.size) (h : rd most (s.data.toList.drop p) 0 0 = (n, k, 0)) :
    rdV most s p = .tuple #[.int .u64 n, .int .i64 (p + k : Int), .int .i64 0] := by
  unfold rdV rdAt
  rw [if_neg (by rw [len_data]; omega)]
  simp [h]
theorem rdV_out {most : Nat} {s : ByteArray} {p : Int} (hp : p < 0 ∨ (s.size : Int) < p) : rdV most s p = .tuple #[.int .u64 0, .int .i64 0, .int .i64 1] := by
  unfold rdV rdAt
  rw [if_pos (by rw [len_data]; omega)]
  rfl
theorem drop_byte (s : ByteArray) (i : Nat) (h : i < s.size) : s.data.toList.drop i = s[i] :: s.data.toList.drop (i + 1) := by
  rw [List.drop_eq_getElem_cons (by rw [len_data]; exact h)]; rfl
theorem rd_step {most : Nat} {s : ByteArray} {p j a : Nat} {c : UInt8} (hlt : p + j < s.size) (hc : s[p + j] = c) (h : rd most (s.data.toList.drop p) 0 0 = rd most (s.data.toList.drop (p + j)) a j) :
    rd most (s.data.toList.drop p) 0 0 = if (j = 0 ∧ c.toNat = 128) ∨ most < a * 128 + c.toNat % 128 then (0, 0, 21)
      else if c.toNat < 128 then (a * 128 + c.toNat % 128, j + 1, 0) else rd most (s.data.toList.drop (p + (j + 1))) (a * 128 + c.toNat % 128) (j + 1) := by
  rw [h, drop_byte s _ hlt, hc]; rfl
theorem wrap_mul128 (a : Nat) (d : Int) (h0 : 0 ≤ d) (h : (a : Int) * 128 + d < 18446744073709551616) : IntKind.u64.wrap ((a : Int) * 128) = (a : Int) * 128 := by
  rw [IntKind.wrap_u64]; omega
theorem or_mul128 (a : Nat) (d : Int) (h0 : 0 ≤ d) (h1 : d < 128) (h : (a : Int) * 128 + d < 18446744073709551616) : bits .or .u64 ((a : Int) * 128) d = (a : Int) * 128 + d :=
  bits_join .u64 64 (by decide) (fun n a b => by rw [IntKind.wrap_u64]; omega) 7 _ _ (by omega) (by omega) (by omega) h0 (by omega) (by omega)

theorem ret3 {k1 k2 k3 : IntKind} {a b c a' b' c' : Int} (h1 : a = a') (h2 : b = b') (h3 : c = c') : Ending.returned (.tuple #[.int k1 a, .int k2 b, .int k3 c]) = .returned (.tuple #[.int k1 a', .int k2 b', .int k3 c']) := by rw [h1, h2, h3]
/-- What holds at the head of read's loop. -/
def RdRel (M : Nat) (s : ByteArray) (p : Nat) (n i : Value) : Prop :=
  ∃ j a : Nat, p + j ≤ s.size ∧ i = .int .i64 ((p : Int) + (j : Int)) ∧ n = .int .u64 a ∧ rd M (s.data.toList.drop p) 0 0 = rd M (s.data.toList.drop (p + j)) a j

set_option maxRecDepth 100000 in
set_option maxHeartbeats 1000000 in
theorem read_in (s : ByteArray) (p : Nat) (most : Int) (w : World) (hp : p ≤ s.size) (hs : s.size ≤ 9223372036854775807) (h0 : 127 ≤ most) (h1 : most < 18446744073709551616) :
    Calls Try.prog 54 #[.string s, .int .i64 p, .int .u64 most] w fun e w' => e = .returned (rdV most.toNat s p) ∧ w = w' := by
  have hd1 : decide ((p : Int) < 0) = false := by simp
  have hd2 : decide (s.size < p) = false := by simp; omega
  go_enter Try.func54, Try.ntmps54
  go_wp2_with fail
  go_loop [9, 10] (fun n i => RdRel most.toNat s p n i) (fun _ i => s.size - (intOf i).toNat)
  case atStart => exact ⟨0, 0, by omega, by simp, rfl, rfl⟩
  case round =>
    obtain ⟨j, a, hj, rfl, rfl, hrd⟩ := hrel
    have Hrd := Lib.hid hrd
    clear hrd
    by_cases hlt : p + j < s.size
    · obtain ⟨c, hc⟩ : ∃ c, s[p + j] = c := ⟨_, rfl⟩
      have Hstep := Lib.hid (rd_step hlt hc Hrd.out)
      have hc0 : (c.toNat : Int) < 256 := by have := c.toNat_lt; omega
      have a127 := and127 (c.toNat : Int) (by omega) hc0
      by_cases hF : (j = 0 ∧ c.toNat = 128) ∨ most.toNat < a * 128 + c.toNat % 128
      · have hE : rd most.toNat (s.data.toList.drop p) 0 0 = (0, 0, 21) := by rw [Hstep.out, if_pos hF]
        have HE := Lib.hid (rdV_err hp hE (by decide))
        clear hE
        have HF := Lib.hid hF
        clear hF
        by_cases h128 : c.toNat = 128
        · have hb : ((c.toNat : Int) == 128) = true := by simp; omega
          have H128 := Lib.hid h128
          clear h128
          go_wp2_with fail
          all_goals first | (exfalso; have := HF.out; have := H128.out; omega) | (go_ret3; exact ⟨(congrArg Ending.returned HE.out).symm, rfl⟩)
        · have hb : ((c.toNat : Int) == 128) = false := by simp; omega
          have hF' : (most - (c.toNat : Int) % 128) / 128 < (a : Int) := by have := HF.out; omega
          go_wp2_with fail
          all_goals first | (exfalso; have := HF.out; omega) | (go_ret3; exact ⟨(congrArg Ending.returned HE.out).symm, rfl⟩)
      · have hF' : (a : Int) ≤ (most - (c.toNat : Int) % 128) / 128 := by omega
        have hle : (a : Int) * 128 + (c.toNat : Int) % 128 ≤ most := by omega
        have hwr := wrap_mul128 a ((c.toNat : Int) % 128) (by omega) (by omega)
        have hor := or_mul128 a ((c.toNat : Int) % 128) (by omega) (by omega) (by omega)
        have hstep := Hstep.out
        rw [if_neg hF] at hstep
        clear Hstep
        have Hstep := Lib.hid hstep
        clear hstep
        have HF := Lib.hid hF
        clear hF
        by_cases h128 : c.toNat = 128
        · have hb : ((c.toNat : Int) == 128) = true := by simp; omega
          have H128 := Lib.hid h128
          clear h128
          go_wp2_with fail
          all_goals first
            | (exfalso; have := HF.out; have := H128.out; omega)
            | (go_round
               case rel =>
                 have hs2 := Hstep.out
                 rw [if_neg (by have := H128.out; omega)] at hs2
                 exact ⟨j + 1, a * 128 + c.toNat % 128, by omega, congrArg (Value.int .i64) (by push_cast; omega), congrArg (Value.int .u64) (by push_cast; omega), hs2⟩
               case measure => simp [intOf]; omega)
        · have hb : ((c.toNat : Int) == 128) = false := by simp; omega
          go_wp2_with fail
          all_goals first
            | (exfalso; omega)
            | (go_round
               case rel =>
                 have hs2 := Hstep.out
                 rw [if_neg (by omega)] at hs2
                 exact ⟨j + 1, a * 128 + c.toNat % 128, by omega, congrArg (Value.int .i64) (by push_cast; omega), congrArg (Value.int .u64) (by push_cast; omega), hs2⟩
               case measure => simp [intOf]; omega)
            | (have hs2 := Hstep.out
               rw [if_pos (by omega)] at hs2
               have fin := rdV_ok hp hs2
               go_ret3
               exact ⟨(ret3 (by push_cast; omega) (by push_cast; omega) rfl).trans (congrArg Ending.returned fin.symm), rfl⟩)
    · have hE : rd most.toNat (s.data.toList.drop p) 0 0 = (0, 0, 20) := by rw [Hrd.out, List.drop_of_length_le (by rw [len_data]; omega)]; rfl
      have HE := Lib.hid (rdV_err hp hE (by decide))
      clear hE
      go_wp2_with fail
      go_ret3
      exact ⟨(congrArg Ending.returned HE.out).symm, rfl⟩
end Go.Proofs.Ytgpifbdjcoiilaa
