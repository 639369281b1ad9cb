/-
  LAWS of layer 3: a frame that is cut off is too short; one that was torn is told by its sum.
-/
import Derived.Test.YtgpifbdjcoiilaaSealL4
import Derived.Test.YtgpifbdjcoiilaaSealTornPlain
namespace Go.Proofs.Ytgpifbdjcoiilaa
open Go.RowKit

theorem sgR_cut {b s : ByteArray} {cut : Nat} (hb : b.size ≤ 8192) (hc : cut < (frm b).size) (hs : s = (frm b).extract 0 cut) : sgR s 0 = (⟨#[]⟩, 0, 20) := by
  have hsz : s.size = cut := by rw [hs, ByteArray.size_extract]; omega
  have hfs := frm_size b
  have hd : s.data.toList = (frm b).data.toList.take cut := by rw [hs, data_extract]; simp
  unfold sgR
  rw [if_neg (by omega)]
  by_cases h0 : cut = 0
  · rw [if_pos (by omega)]
  · rw [if_neg (by omega)]
    obtain ⟨c, rfl⟩ : ∃ c, cut = c + 1 := ⟨cut - 1, by omega⟩
    have hd2 : s.data.toList = 166 :: (dig b.size ++ (b.data.toList ++ be4 (crc (headS b).data.toList))).take c := by rw [hd, frm_data, List.take_succ_cons]
    rw [if_neg (by rw [hd2]; simp)]
    have hdl := dig_length b.size
    have hg : getR s.data.toList (0 + 1) = if c < (dig b.size).length then (0, 0, 20) else (b.size, (1 : Int) + (dig b.size).length, 0) := by
      unfold getR rdAt
      rw [if_neg (by rw [len_data]; omega), hd2]
      show (match rd 9223372036854775807 (((dig b.size ++ (b.data.toList ++ be4 (crc (headS b).data.toList))).take c)) 0 0 with
        | (n, k, e) => if e = 0 then (n, (0 : Int) + 1 + (k : Int), 0) else (0, 0, e)) = _
      by_cases hcl : c < (dig b.size).length
      · rw [if_pos hcl, List.take_append_of_le_length (by omega), rd_dig_cut _ (by omega) (by omega) hcl]
        simp
      · rw [if_neg hcl, show c = (dig b.size).length + (c - (dig b.size).length) by omega, List.take_length_add_append, rd_dig _ (by omega) (by omega)]
        simp
    rw [hg]
    by_cases hcl : c < (dig b.size).length
    · rw [if_pos hcl]; simp
    · rw [if_neg hcl]
      simp only
      rw [if_neg (by simp), if_neg (by omega), if_pos (by rw [hsz]; omega)]

theorem crc_head (l m : List UInt8) : crc (l ++ m) = crcL (crc l) m := by unfold crc; rw [crcL_append]
theorem crcL_be4 (r : Nat) (h : r < 4294967296) : crcL r (be4 r) = 0 :=
  crcL_own r h _ _ _ _ (u8_ofNat_toNat (by omega)) (u8_ofNat_toNat (by omega)) (u8_ofNat_toNat (by omega)) (u8_ofNat_toNat (by omega))

theorem sgR_torn {b s : ByteArray} {T' : List UInt8} {a : Nat} (hb : b.size ≤ 8192) (hs : s.data.toList = 166 :: (dig b.size ++ T')) (hl : T'.length = b.size + 4)
    (hw : ∀ t : Nat, t < 8 * (b.size + 4) → (t < a ∨ a + 32 ≤ t) → bitAt (b.data.toList ++ be4 (crc (headS b).data.toList)) t = bitAt T' t)
    (hne : T' ≠ b.data.toList ++ be4 (crc (headS b).data.toList)) : sgR s 0 = (⟨#[]⟩, 0, 30) := by
  have hdl := dig_length b.size
  have hsz : s.size = 1 + (dig b.size).length + b.size + 4 := by rw [← len_data, hs]; simp; omega
  have hp : 0 < s.size := by omega
  have h166 : s[0] = 166 := by
    have h := drop_byte s 0 hp
    rw [hs, List.drop_zero] at h
    exact (List.cons.inj h).1.symm
  have hg : getR s.data.toList (((0 : Nat) : Int) + 1) = (b.size, ((1 + (dig b.size).length : Nat) : Int), 0) := by
    have h := rdAt_back (most := 9223372036854775807) (n := b.size) (by omega) (by omega) ⟨#[166]⟩ ⟨T'.toArray⟩
    have e1 : (ByteArray.mk #[166] ++ digS b.size ++ ByteArray.mk T'.toArray).data.toList = s.data.toList := by
      rw [data_app, data_app, hs, digS_data]; simp
    rw [e1, digS_size] at h
    unfold getR
    have e2 : (((0 : Nat) : Int) + 1) = (((ByteArray.mk #[166]).size : Nat) : Int) := rfl
    rw [e2, h]
    refine Prod.ext rfl (Prod.ext ?_ rfl)
    show ((1 : Nat) : Int) + _ = _
    push_cast; rfl
  have hend := sgR_end hp h166 hg hb (by omega)
  rw [show ((0 : Nat) : Int) = 0 from rfl] at hend
  rw [hend]
  have d1 : s.data.toList.drop (1 + (dig b.size).length) = T' := by
    rw [hs, Nat.add_comm, List.drop_succ_cons, List.drop_left]
  have x1 : (s.extract 0 (1 + (dig b.size).length + b.size)).data.toList = 166 :: (dig b.size ++ T'.take b.size) := by
    rw [data_extract, List.drop_zero, Nat.sub_zero, hs, show 1 + (dig b.size).length + b.size = ((dig b.size).length + b.size) + 1 by omega, List.take_succ_cons, List.take_length_add_append]
  have x3 : (s.extract (1 + (dig b.size).length + b.size) (1 + (dig b.size).length + b.size + 4)).data.toList = T'.drop b.size := by
    rw [data_extract, ← List.drop_drop, d1, Nat.add_sub_cancel_left, List.take_of_length_le (by rw [List.length_drop]; omega)]
  by_cases hc : be4S (crc (s.extract 0 (1 + (dig b.size).length + b.size)).data.toList) = s.extract (1 + (dig b.size).length + b.size) (1 + (dig b.size).length + b.size + 4)
  · exfalso
    have hq := congrArg (fun y : ByteArray => y.data.toList) hc
    simp only [x3, x1] at hq
    have hq' : be4 (crc (166 :: (dig b.size ++ T'.take b.size))) = T'.drop b.size := hq
    have r0 : ∀ l : List UInt8, crc (166 :: (dig b.size ++ l)) = crcL (crc (166 :: dig b.size)) l := fun l => by
      rw [← crc_head]; rfl
    have t1 : crcL (crc (166 :: dig b.size)) T' = 0 := by
      rw [← List.take_append_drop b.size T', crcL_append, ← r0, ← hq']
      exact crcL_be4 _ (crc_lt _)
    have t2 : crcL (crc (166 :: dig b.size)) (b.data.toList ++ be4 (crc (headS b).data.toList)) = 0 := by
      rw [crcL_append, ← r0, ← headS_data]
      exact crcL_be4 _ (crc_lt _)
    have hlb : (b.data.toList ++ be4 (crc (headS b).data.toList)).length = b.size + 4 := by rw [List.length_append, len_data]; rfl
    exact hne (torn (a := a) (crc_lt _) (by rw [hlb, hl]) t2 t1 (fun t ht h => hw t (by rw [hlb] at ht; exact ht) h)).symm
  · rw [if_neg hc]
end Go.Proofs.Ytgpifbdjcoiilaa
