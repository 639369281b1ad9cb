/-
  WALKS of layer 2: read, Get, GetSigned, GetText of the reference.
-/
import Derived.Test.YtgpifbdjcoiilaaVlqW3
import Derived.Outline
namespace Go.Proofs.Ytgpifbdjcoiilaa
open Go.RowKit
set_option maxRecDepth 100000 in
set_option maxHeartbeats 1000000 in
theorem rread_in (s : ByteArray) (p : Nat) (most : Int) (w : World) (hp : p ≤ s.size) (hs : s.size ≤ 9223372036854775807) (h0 : 127 ≤ most) (h1 : most < 18446744073709551616) :
    Calls Try.prog 55 #[.string s, .int .i64 p, .int .u64 most] w fun e w' => e = .returned (rdV most.toNat s p) ∧ w = w' := by
  have hd1 : decide ((p : Int) < 0) = false := by simp
  have hd2 : decide (s.size < p) = false := by simp; omega
  go_enter Try.func55, Try.ntmps55
  go_wp2_with fail
  go_loop [9, 10] (fun n i => RdRel most.toNat s p n i) (fun _ i => s.size - (intOf i).toNat)
  case atStart => exact ⟨0, 0, by omega, by simp, rfl, rfl⟩
  case round =>
    obtain ⟨j, a, hj, rfl, rfl, hrd⟩ := hrel
    have Hrd := Lib.hid hrd
    clear hrd
    by_cases hlt : p + j < s.size
    · obtain ⟨c, hc⟩ : ∃ c, s[p + j] = c := ⟨_, rfl⟩
      have Hstep := Lib.hid (rd_step hlt hc Hrd.out)
      have hc0 : (c.toNat : Int) < 256 := by have := c.toNat_lt; omega
      have a127 := and127 (c.toNat : Int) (by omega) hc0
      clear a127
      have Hc := Lib.hid hc
      clear hc
      by_cases hF : (j = 0 ∧ c.toNat = 128) ∨ most.toNat < a * 128 + c.toNat % 128
      · have hE : rd most.toNat (s.data.toList.drop p) 0 0 = (0, 0, 21) := by rw [Hstep.out, if_pos hF]
        have HE := Lib.hid (rdV_err hp hE (by decide))
        clear hE
        have HF := Lib.hid hF
        clear hF
        by_cases hj0 : j = 0
        · subst hj0
          rw [show ((p : Int) + ((0 : Nat) : Int)) = (p : Int) from by simp]
          have hc' : s[p] = c := Hc.out
          have hlt' : p < s.size := hlt
          by_cases h128 : c.toNat = 128
          · have hb : ((c.toNat : Int) == 128) = true := by simp; omega
            have H128 := Lib.hid h128
            clear h128
            go_wp2_with fail
            all_goals first | (exfalso; have := HF.out; have := H128.out; omega) | (go_ret3; exact ⟨(congrArg Ending.returned HE.out).symm, rfl⟩)
          · have hb : ((c.toNat : Int) == 128) = false := by simp; omega
            go_wp2_with fail
            all_goals first | (exfalso; have := HF.out; omega) | (go_ret3; exact ⟨(congrArg Ending.returned HE.out).symm, rfl⟩)
        · have hpj : ((p : Int) + (j : Int) == (p : Int)) = false := by simp; omega
          have hc' := Hc.out
          go_wp2_with fail
          all_goals first | (exfalso; have := HF.out; omega) | (go_ret3; exact ⟨(congrArg Ending.returned HE.out).symm, rfl⟩)
      · have hle : (a : Int) * 128 + (c.toNat : Int) % 128 ≤ most := by omega
        have hstep := Hstep.out
        rw [if_neg hF] at hstep
        clear Hstep
        have Hstep := Lib.hid hstep
        clear hstep
        have HF := Lib.hid hF
        clear hF
        by_cases hj0 : j = 0
        · subst hj0
          rw [show ((p : Int) + ((0 : Nat) : Int)) = (p : Int) from by simp]
          have hc' : s[p] = c := Hc.out
          have hlt' : p < s.size := hlt
          have hb : ((c.toNat : Int) == 128) = false := by have := HF.out; simp; omega
          go_wp2_with fail
          all_goals first
            | (exfalso; omega)
            | (go_round
               case rel =>
                 have hs2 := Hstep.out
                 rw [if_neg (by omega)] at hs2
                 exact ⟨0 + 1, a * 128 + c.toNat % 128, by omega, congrArg (Value.int .i64) (by push_cast; omega), congrArg (Value.int .u64) (by push_cast; omega), hs2⟩
               case measure => simp [intOf]; omega)
            | (have hs2 := Hstep.out
               rw [if_pos (by omega)] at hs2
               have fin := rdV_ok hp hs2
               go_ret3
               exact ⟨(ret3 (by push_cast; omega) (by push_cast; omega) rfl).trans (congrArg Ending.returned fin.symm), rfl⟩)
        · have hpj : ((p : Int) + (j : Int) == (p : Int)) = false := by simp; omega
          have hc' := Hc.out
          go_wp2_with fail
          all_goals first
            | (exfalso; omega)
            | (go_round
               case rel =>
                 have hs2 := Hstep.out
                 rw [if_neg (by omega)] at hs2
                 exact ⟨j + 1, a * 128 + c.toNat % 128, by omega, congrArg (Value.int .i64) (by push_cast; omega), congrArg (Value.int .u64) (by push_cast; omega), hs2⟩
               case measure => simp [intOf]; omega)
            | (have hs2 := Hstep.out
               rw [if_pos (by omega)] at hs2
               have fin := rdV_ok hp hs2
               go_ret3
               exact ⟨(ret3 (by push_cast; omega) (by push_cast; omega) rfl).trans (congrArg Ending.returned fin.symm), rfl⟩)
    · have hE : rd most.toNat (s.data.toList.drop p) 0 0 = (0, 0, 20) := by rw [Hrd.out, List.drop_of_length_le (by rw [len_data]; omega)]; rfl
      have HE := Lib.hid (rdV_err hp hE (by decide))
      clear hE
      go_wp2_with fail
      go_ret3
      exact ⟨(congrArg Ending.returned HE.out).symm, rfl⟩
end Go.Proofs.Ytgpifbdjcoiilaa
