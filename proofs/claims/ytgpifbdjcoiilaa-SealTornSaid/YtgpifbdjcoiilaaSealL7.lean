/-
  WALK of SealTorn, joined.
-/
import Derived.Test.YtgpifbdjcoiilaaSealL6
import Derived.RegionTactic
import Derived.Outline
namespace Go.Proofs.Ytgpifbdjcoiilaa
open Go.RowKit
set_option maxHeartbeats 2000000 in
set_option maxRecDepth 100000 in
theorem torn_long (s b : ByteArray) (fr0 cut pat : Int) (w : World) (hs0 : 2000 < s.size) (hbe : s.extract 0 2000 = b) (hb : b.size ≤ 2000) (hp0 : 0 ≤ pat) (hp1 : pat < 4294967296) :
    Calls Try.prog 14 #[.string s, .int .i64 fr0, .int .i64 cut, .int .u32 pat] w fun e w' => e = .returned (.bool true) ∧ Below w.heap.size w w' := by
  have hfs := frm_size b
  have hd1 : decide ((2000 : Int) < (s.size : Int)) = true := by simp; omega
  have Hbe := Lib.hid hbe
  clear hbe
  have hdl := dig_length b.size
  have hc9 := cnt_le (n := b.size) (by omega)
  obtain ⟨N, hN⟩ : ∃ N, N = (frm b).size := ⟨_, rfl⟩
  obtain ⟨K, hK, hKe⟩ := ring_ix cut (frm b).size (by omega) (by omega)
  obtain ⟨F, hF, hFe⟩ := ring_ix fr0 (8 * (b.size + 4)) (by omega) (by omega)
  have HB := Lib.hid (sgR_cut (b := b) (s := (frm b).extract 0 K) (by omega) hK rfl)
  have hFe' : (wrap64 (fr0.tmod (8 * ((b.size : Int) + 4)) + 8 * ((b.size : Int) + 4))).tmod (8 * ((b.size : Int) + 4)) = (F : Int) := by
    have e : ((8 * (b.size + 4) : Nat) : Int) = 8 * ((b.size : Int) + 4) := by omega
    rw [e] at hFe; exact hFe
  obtain ⟨f, hfe⟩ : ∃ f, frm b = f := ⟨_, rfl⟩
  rw [hfe] at hfs hK hKe HB
  have Hfe := Lib.hid hfe
  have Hfs := Lib.hid hfs
  have Hdl := Lib.hid hdl
  have hf1 : b.size + 6 ≤ f.size := by omega
  have hf2 : f.size ≤ b.size + 20 := by omega
  clear hFe hN hfe hfs hdl hc9
  have hd2 : decide ((f.size : Int) < (b.size : Int) + 4) = false := by simp; omega
  obtain ⟨ST, hST⟩ : ∃ ST : Nat, (f.size : Int) - (b.size : Int) - 4 = (ST : Int) := ⟨f.size - b.size - 4, by omega⟩
  have HSTd : Hid (ST = 1 + (dig b.size).length) := Lib.hid (by have := Hfs.out; omega)
  obtain ⟨P, hP⟩ : ∃ P : Nat, pat = (P : Int) := ⟨pat.toNat, by omega⟩
  have HP := Lib.hid hP
  clear hP
  go_enter Try.func14, Try.ntmps14
  go_wp2_with fail
  rw [Hbe.out]
  refine (sput_yes b _ (by omega)).mono ?_
  rintro e w1 ⟨rfl, hb1⟩
  rw [Hfe.out]
  go_wp2_with fail
  refine (sget_any (f.extract 0 K) 0 _ _ _ _ (by rw [ByteArray.size_extract]; omega) HB.out).mono ?_
  rintro e w2 ⟨rfl, hb2⟩
  have hcv := fun W => run_bytes_of_string (P := Try.prog) W 9 48 5 f Try.underlying9 Try.underlying48 Try.underlying5
  go_wp2_with fail
  have hrow : (bytesRow f (grownCap w2 f.size 0 5)).toList.take f.size = Lib.byteCells (166 :: (dig b.size ++ bodyT b)) := by
    rw [← frm_bodyT, Hfe.out]
    unfold bytesRow
    rw [Array.toList_append, Array.toList_map, List.take_append_of_le_length (by simp), List.take_of_length_le (by simp)]
    rfl
  have Hrow := Lib.hid hrow
  clear hrow
  obtain ⟨g, hg⟩ : ∃ g, g = w2.heap.size := ⟨_, rfl⟩
  obtain ⟨cp, hcp⟩ : ∃ cp, cp = grownCap w2 f.size 0 5 := ⟨_, rfl⟩
  rw [← hg, ← hcp]
  have Hg := Lib.hid hg
  have Hcp := Lib.hid hcp
  clear hg hcp
  go_loopw [17, 18] (fun ch i wr => TnRel b F P g w ch i wr) (fun _ i _ => 32 - (intOf i).toNat)
  case atStart =>
    refine ⟨0, bodyT b, false, bytesRow f cp, by omega, by omega, rfl, rfl, by simp, bodyT_len b, ?_, ?_, ?_, ?_⟩
    · intro t ht
      unfold eb
      rw [if_neg (by omega), Nat.xor_zero]
    · rw [Hg.out]; exact heap_alloc_new _ _
    · rw [Hfe.out, Hcp.out]; exact Hrow.out
    · exact ((hb1.trans (hb2.mono hb1.size)).alloc (by have := hb1.size; have := hb2.size; omega) _).drew
  case round =>
    obtain ⟨k, T', c, cur, hk, hFk, rfl, rfl, hc, hT', hbits, hheap, hcur, hbel⟩ := hrel
    have Hc := Lib.hid hc
    have Hbits := Lib.hid hbits
    have Hheap := Lib.hid hheap
    have Hcur := Lib.hid hcur
    clear hc hbits hheap hcur
    by_cases hlt : k < 32 ∧ F + k < 8 * (b.size + 4)
    · obtain ⟨hk32, hFk'⟩ := hlt
      by_cases hbit : P / 2 ^ k % 2 = 1
      · have hand : bits .and .u32 (pat / 2 ^ k) 1 = 1 := by rw [HP.out, and_bit P k (by have := HP.out; omega), hbit]; rfl
        obtain ⟨J, hJ⟩ : ∃ J : Nat, ((F : Int) + (k : Int)) / 8 = (J : Int) := ⟨(F + k) / 8, by omega⟩
        obtain ⟨Q, hQ⟩ : ∃ Q : Nat, ((F : Int) + (k : Int)) % 8 = (Q : Int) := ⟨(F + k) % 8, by omega⟩
        have hQ8 : (Q : Int) < 8 := by omega
        have hJn : J < T'.length := by omega
        have hix : ST + J < f.size := by omega
        obtain ⟨x, hx⟩ : ∃ x, T'[J] = x := ⟨_, rfl⟩
        have hcl : cur[ST + J]? = some (.int .u8 (x.toNat : Int)) := by
          have h1 : (cur.toList.take (frm b).size)[ST + J]? = some (.int .u8 (x.toNat : Int)) := by
            rw [Hcur.out]
            have h2 : (166 :: (dig b.size ++ T'))[ST + J]? = some x := by
              rw [show ST + J = ((dig b.size).length + J) + 1 by have := HSTd.out; omega, List.getElem?_cons_succ, List.getElem?_append_right (by omega), Nat.add_sub_cancel_left, List.getElem?_eq_getElem hJn, hx]
            rw [Lib.byteCells, List.getElem?_map, h2]; rfl
          rw [List.getElem?_take_of_lt (by rw [Hfe.out]; exact hix), Array.getElem?_toList] at h1
          exact h1
        have hcell : wr.cell? ⟨g, ST + J, none⟩ = some (.int .u8 (x.toNat : Int)) := by rw [Lib.cell_of_heap Hheap.out]; exact hcl
        have hlc : ST + J < cur.size := by
          rcases Nat.lt_or_ge (ST + J) cur.size with h | h
          · exact h
          · rw [Array.getElem?_eq_none h] at hcl; simp at hcl
        have hfz : wr.frozen? ⟨g, ST + J, none⟩ = false := by
          simp [World.frozen?, Hheap.out]; omega
        obtain ⟨hxu, hyu⟩ := xor_u8 x Q
        obtain ⟨y, hy⟩ : ∃ y, UInt8.ofNat (x.toNat ^^^ (128 / 2 ^ Q)) = y := ⟨_, rfl⟩
        rw [hy] at hxu hyu
        have Hyu := Lib.hid hyu
        have Hcl := Lib.hid hcl
        have Hx := Lib.hid hx
        have HJ := Lib.hid hJ
        have HQ := Lib.hid hQ
        clear hyu hcl hx hy
        have i1 : (0 : Int) ≤ (ST : Int) + (J : Int) := by omega
        have i2 : (ST : Int) + (J : Int) < (f.size : Int) := by omega
        have hwr : IntKind.i64.wrap ((ST : Int) + (J : Int)) = (ST : Int) + (J : Int) := by rw [IntKind.wrap_i64]; omega
        have htn : ((ST : Int) + (J : Int)).toNat = ST + J := by omega
        go_wp2_with fail
        go_region
        go_wp2_with fail
        go_roundw
        case rel =>
          have hT'' : (T'.set J y).length = b.size + 4 := by rw [List.length_set]; exact hT'
          refine ⟨k + 1, T'.set J y, true, cur.set (ST + J) (.int .u8 (y.toNat : Int)) hlc, by omega, by omega, by go_num, rfl, ?_, hT'', ?_, ?_, ?_, ?_⟩
          · exact ⟨fun _ => ⟨k, by omega, hbit⟩, fun _ => rfl⟩
          · intro t ht
            have hJ' := HJ.out
            have hQ' := HQ.out
            rw [flip_bits hJn (by omega) Hx.out Hyu.out t, Hbits.out t ht, Nat.xor_assoc]
            congr 1
            unfold eb
            by_cases h2 : t = 8 * J + Q
            · rw [if_neg (by omega), if_pos h2, if_pos (by omega), show t - F = k by omega, hbit]; rfl
            · rw [if_neg h2, Nat.xor_zero]
              by_cases h1 : F ≤ t ∧ t < F + k
              · rw [if_pos h1, if_pos (by omega)]
              · rw [if_neg h1, if_neg (by omega)]
          · rw [tn_heap Hheap.out hlc, Array.size_set]
          · rw [Array.toList_set, List.take_set, Hcur.out]
            exact tn_cells (by have := HSTd.out; omega)
          · exact (Below.setCell hbel (p := ⟨g, ST + J, none⟩) (by have := Hg.out; have := hb1.size; have := hb2.size; show w.heap.size ≤ g; omega) _).drew
        case measure => simp [intOf]; omega
      · have hand : bits .and .u32 (pat / 2 ^ k) 1 = 0 := by rw [HP.out, and_bit P k (by have := HP.out; omega), show P / 2 ^ k % 2 = 0 by omega]; rfl
        go_wp2_with fail
        go_roundw
        case rel =>
          refine ⟨k + 1, T', c, cur, by omega, by omega, by go_num, rfl, ?_, hT', ?_, Hheap.out, Hcur.out, hbel⟩
          · rw [Hc.out]
            constructor
            · rintro ⟨j, hj, hj'⟩; exact ⟨j, by omega, hj'⟩
            · rintro ⟨j, hj, hj'⟩
              refine ⟨j, ?_, hj'⟩
              rcases Nat.lt_or_eq_of_le (Nat.le_of_lt_succ hj) with h | h
              · exact h
              · rw [h] at hj'; exact absurd hj' hbit
          · intro t ht
            rw [Hbits.out t ht]
            congr 1
            unfold eb
            by_cases h1 : F ≤ t ∧ t < F + k
            · rw [if_pos h1, if_pos (by omega)]
            · rw [if_neg h1]
              by_cases h2 : F ≤ t ∧ t < F + (k + 1)
              · rw [if_pos h2, show t - F = k by omega]; omega
              · rw [if_neg h2]
        case measure => simp [intOf]; omega
    · have Hlt := Lib.hid hlt
      clear hlt
      obtain ⟨s', hs'⟩ : ∃ s' : ByteArray, s' = ⟨(166 :: (dig b.size ++ T')).toArray⟩ := ⟨_, rfl⟩
      have hsd : s'.data.toList = 166 :: (dig b.size ++ T') := by rw [hs']
      have hsz : s'.size = f.size := by rw [← len_data, hsd]; have := HSTd.out; simp; omega
      have hsr : sgR s' 0 = if c then (⟨#[]⟩, 0, 30) else (b, (f.size : Int), 0) := by
        cases c with
        | false =>
          have hno : ∀ t, eb F P k t = 0 := by
            intro t
            unfold eb
            by_cases h1 : F ≤ t ∧ t < F + k
            · rw [if_pos h1]
              have := mt Hc.out.2 (by simp)
              rcases Nat.mod_two_eq_zero_or_one (P / 2 ^ (t - F)) with h | h
              · exact h
              · exact absurd ⟨t - F, by omega, h⟩ this
            · rw [if_neg h1]
          have hTe : T' = bodyT b := by
            apply list_of_bits (by rw [hT', bodyT_len])
            intro t ht
            rw [Hbits.out t (by omega), hno, Nat.xor_zero]
          have h := sgR_back (s := s') (b := b) (A := []) (R := []) (by rw [hsd, hTe, frm_bodyT]; simp) (by omega)
          rw [Hfe.out] at h
          simpa using h
        | true =>
          obtain ⟨j, hj, hj'⟩ := Hc.out.1 rfl
          refine sgR_torn (a := F) (by omega) hsd hT' ?_ ?_
          · intro t ht h
            have := Hbits.out t ht
            unfold eb at this
            rw [if_neg (by omega), Nat.xor_zero] at this
            exact this.symm
          · intro h
            have h2 := Hbits.out (F + j) (by omega)
            have h3 : T' = bodyT b := h
            unfold eb at h2
            rw [h3, if_pos (by omega), Nat.add_sub_cancel_left, hj'] at h2
            have h4 := congrArg (fun x => bitAt (bodyT b) (F + j) ^^^ x) h2
            simp only [← Nat.xor_assoc, Nat.xor_self, Nat.zero_xor] at h4
            exact absurd h4 (by decide)
      have Hsr := Lib.hid hsr
      have Hsd := Lib.hid hsd
      clear hs' hsr hsd
      have hcv2 : (convert 48 9 (.slice (some ⟨g, 0, none⟩) f.size cp)).run Try.prog wr = .ok (.string s') wr := by
        have h := run_convert_bytes_back (P := Try.prog) wr 48 9 5 ⟨g, 0, none⟩ cp (166 :: (dig b.size ++ T')) Try.underlying48 Try.underlying5 Try.underlying9 (by
          intro j hj
          rw [show (⟨g, 0, none⟩ : Addr).add j = ⟨g, j, none⟩ by cases j <;> simp [Addr.add]]
          rw [Lib.cell_of_heap Hheap.out, ← Array.getElem?_toList]
          have h1 := congrArg (fun l : List Value => l[j]?) Hcur.out
          rw [List.getElem?_take_of_lt (by rw [Hfe.out, ← hsz, ← len_data, Hsd.out]; exact hj)] at h1
          rw [h1, Lib.byteCells, List.getElem?_map, List.getElem?_eq_getElem hj]
          rfl)
        rw [show (166 :: (dig b.size ++ T')).length = f.size by rw [← Hsd.out, len_data, hsz]] at h
        rw [h, ← Hsd.out]
      cases c with
      | false =>
        have Hr : sgR s' 0 = (b, (f.size : Int), 0) := Hsr.out
        rcases Nat.lt_or_ge k 32 with h32 | h32
        · have h33 : F + k = 8 * (b.size + 4) := by have := Hlt.out; omega
          go_wp2_with fail
          refine (sget_any s' 0 _ _ _ _ (by omega) Hr).mono ?_
          rintro e w3 ⟨rfl, hb3⟩
          go_wp2_with fail
          go_ret
          exact ⟨rfl, hbel.trans (hb3.mono hbel.size)⟩
        · have h33 : k = 32 := by omega
          go_wp2_with fail
          refine (sget_any s' 0 _ _ _ _ (by omega) Hr).mono ?_
          rintro e w3 ⟨rfl, hb3⟩
          go_wp2_with fail
          go_ret
          exact ⟨rfl, hbel.trans (hb3.mono hbel.size)⟩
      | true =>
        have Hr : sgR s' 0 = (⟨#[]⟩, 0, 30) := Hsr.out
        rcases Nat.lt_or_ge k 32 with h32 | h32
        · have h33 : F + k = 8 * (b.size + 4) := by have := Hlt.out; omega
          go_wp2_with fail
          refine (sget_any s' 0 _ _ _ _ (by omega) Hr).mono ?_
          rintro e w3 ⟨rfl, hb3⟩
          go_wp2_with fail
          go_ret
          exact ⟨rfl, hbel.trans (hb3.mono hbel.size)⟩
        · have h33 : k = 32 := by omega
          go_wp2_with fail
          refine (sget_any s' 0 _ _ _ _ (by omega) Hr).mono ?_
          rintro e w3 ⟨rfl, hb3⟩
          go_wp2_with fail
          go_ret
          exact ⟨rfl, hbel.trans (hb3.mono hbel.size)⟩
theorem torn_any (s : ByteArray) (fr0 cut pat : Int) (w : World) (hp0 : 0 ≤ pat) (hp1 : pat < 4294967296) :
    Calls Try.prog 14 #[.string s, .int .i64 fr0, .int .i64 cut, .int .u32 pat] w fun e w' => e = .returned (.bool true) ∧ Below w.heap.size w w' := by
  by_cases h : s.size ≤ 2000
  · exact (torn_loop s fr0 cut pat w h hp0 hp1)
  · exact (torn_long s _ fr0 cut pat w (by omega) rfl (by rw [ByteArray.size_extract]; omega) hp0 hp1)
end Go.Proofs.Ytgpifbdjcoiilaa
