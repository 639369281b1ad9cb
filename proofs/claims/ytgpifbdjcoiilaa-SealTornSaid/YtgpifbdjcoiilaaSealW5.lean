/-
  WALKS of layer 3: Get of the reference.
-/
import Derived.Test.YtgpifbdjcoiilaaSealW4
namespace Go.Proofs.Ytgpifbdjcoiilaa
open Go.RowKit

/-- A frame that is there is the frame of its body just if its sum fits. -/
theorem frm_iff {s : ByteArray} {p fr n : Nat} (hp : p < s.size) (h166 : s[p] = 166) (hg : getR s.data.toList ((p : Int) + 1) = (n, (fr : Int), 0)) (hend : fr + n + 4 ≤ s.size) :
    (s.extract p (fr + n + 4) = frm (s.extract fr (fr + n))) ↔ be4S (crc (s.extract p (fr + n)).data.toList) = s.extract (fr + n) (fr + n + 4) := by
  obtain ⟨q, t, hq, ht, hqt, hts, _, hx⟩ := rdAt_once (by decide) hg
  obtain rfl : q = p + 1 := by omega
  obtain rfl : t = fr := by omega
  have hbs : (s.extract t (t + n)).size = n := by rw [ByteArray.size_extract]; omega
  have hh : headS (s.extract t (t + n)) = s.extract p (t + n) := by
    apply bytes_ext
    unfold headS
    rw [data_app, data_app, hbs, ← hx, data_extract, data_extract, data_extract]
    have e1 : s.data.toList.drop p = s[p] :: s.data.toList.drop (p + 1) := drop_byte s p hp
    rw [e1, h166, show t + n - p = (t - (p + 1) + n) + 1 by omega, List.take_succ_cons, List.take_add, List.drop_drop]
    rw [show p + 1 + (t - (p + 1)) = t by omega, Nat.add_sub_cancel_left]
    rfl
  unfold frm
  rw [hh]
  have hsp : s.extract p (t + n + 4) = s.extract p (t + n) ++ s.extract (t + n) (t + n + 4) := by
    apply bytes_ext
    rw [data_app, data_extract, data_extract, data_extract, show t + n + 4 - p = (t + n - p) + 4 by omega, List.take_add, List.drop_drop, show p + (t + n - p) = t + n by omega, Nat.add_sub_cancel_left]
  rw [hsp]
  constructor
  · intro h
    have := congrArg (fun b : ByteArray => b.data.toList) h
    simp only [data_app] at this
    exact (bytes_ext (List.append_cancel_left this)).symm
  · intro h; rw [h]

set_option maxHeartbeats 1000000 in
set_option maxRecDepth 100000 in
theorem rsget_in (s : ByteArray) (p fr n : Nat) (w : World) (hs : s.size ≤ 140737488355328) (hp : p < s.size) (h166 : s[p] = 166)
    (hg : getR s.data.toList ((p : Int) + 1) = (n, (fr : Int), 0)) (hn : n ≤ 8192) (hfr : p < fr) (hend : fr + n + 4 ≤ s.size) :
    Calls Try.prog 40 #[.string s, .int .i64 p] w fun e w' => e = .returned (if be4S (crc (s.extract p (fr + n)).data.toList) = s.extract (fr + n) (fr + n + 4) then .tuple #[.string (s.extract fr (fr + n)), .int .i64 (fr + n + 4), .int .i64 0] else .tuple #[.string ⟨#[]⟩, .int .i64 0, .int .i64 30]) ∧ Below w.heap.size w w' := by
  have hiff := frm_iff hp h166 hg hend
  obtain ⟨V, hV⟩ : ∃ V, (if be4S (crc (s.extract p (fr + n)).data.toList) = s.extract (fr + n) (fr + n + 4) then Value.tuple #[.string (s.extract fr (fr + n)), .int .i64 (fr + n + 4), .int .i64 0] else .tuple #[.string ⟨#[]⟩, .int .i64 0, .int .i64 30]) = V := ⟨_, rfl⟩
  rw [hV]
  have Hg := Lib.hid hg
  have hp0 : decide ((p : Int) < 0) = false := by simp
  have hp1 : decide (s.size < p) = false := by simp; omega
  have hp2 : ((p : Int) == (s.size : Int)) = false := by simp; omega
  obtain ⟨S1, hS1⟩ : ∃ S1, s.extract p (fr + n + 4) = S1 := ⟨_, rfl⟩
  obtain ⟨S2, hS2⟩ : ∃ S2, s.extract fr (fr + n) = S2 := ⟨_, rfl⟩
  have hs1 := fun W => slice_at W s (p : Int) ((fr : Int) + (n : Int) + 4) p (fr + n + 4) rfl (by push_cast; rfl) (by omega) (by omega)
  have hs2 := fun W => slice_at W s (fr : Int) ((fr : Int) + (n : Int)) fr (fr + n) rfl (by push_cast; rfl) (by omega) (by omega)
  have hS2s : S2.size ≤ 140737488355328 := by rw [← hS2, ByteArray.size_extract]; omega
  rw [hS1] at hs1 hiff
  rw [hS2] at hs2 hiff hV
  obtain ⟨F, hF⟩ : ∃ F, frm S2 = F := ⟨_, rfl⟩
  rw [hF] at hiff
  have HF := Lib.hid hF
  have HV := Lib.hid hV
  have Hiff := Lib.hid hiff
  obtain ⟨B, hB⟩ : ∃ B, (S1.toList == F.toList) = B := ⟨_, rfl⟩
  have hwr : IntKind.i64.wrap ((fr : Int) + (n : Int) + 4) = (fr : Int) + (n : Int) + 4 := by rw [IntKind.wrap_i64]; omega
  have hwr2 : IntKind.i64.wrap ((fr : Int) + (n : Int)) = (fr : Int) + (n : Int) := by rw [IntKind.wrap_i64]; omega
  clear hg hV hF hiff hS1 hS2
  go_enter Try.func40, Try.ntmps40
  go_wp2_with fail
  refine (rget_any s _ _ n fr 0 (by omega) Hg.out).mono ?_
  rintro e w0 ⟨rfl, rfl⟩
  go_wp2_with fail
  go_cut [62] (fun v W => v = .bool !B ∧ Below w.heap.size w W)
  case first =>
    go_region_with (first | (go_at_call 43; refine (frame_any S2 _ hS2s).mono ?_; rintro e w2 ⟨rfl, hb2⟩; rw [HF.out]))
    all_goals
      go_wp2_with fail
      go_meet
      refine ⟨rfl, ?_⟩
      repeat' (first | exact Below.refl _ _ | assumption | refine Below.drew ?_ | refine Below.al ?_ _ | refine Below.then ?_ (by assumption))
  case rest =>
    obtain ⟨rfl, hbw⟩ := hcut
    have HB := Lib.hid hB
    clear hB
    cases B
    · have hc : ¬ S1 = F := fun h => by have := HB.out; rw [h] at this; simp at this
      have hv := HV.out
      rw [if_neg (fun h => hc (Hiff.out.2 h))] at hv
      have Hv := Lib.hid hv
      clear hv hc
      go_wp2_with fail
      go_ret3
      exact ⟨congrArg Ending.returned Hv.out, hbw⟩
    · have hc : S1 = F := by
        have h := HB.out
        rw [beq_iff_eq, ByteArray.toList_eq, ByteArray.toList_eq] at h
        exact bytes_ext h
      have hv := HV.out
      rw [if_pos (Hiff.out.1 hc)] at hv
      have Hv := Lib.hid hv
      clear hv hc
      go_wp2_with fail
      go_ret3
      exact ⟨congrArg Ending.returned Hv.out, hbw⟩
set_option maxHeartbeats 1000000 in
set_option maxRecDepth 100000 in
theorem rsget_any (s : ByteArray) (p : Int) (w : World) (x : ByteArray) (m e0 : Int) (hs : s.size ≤ 140737488355328) (hr : sgR s p = (x, m, e0)) :
    Calls Try.prog 40 #[.string s, .int .i64 p] w fun e w' => e = .returned (.tuple #[.string x, .int .i64 m, .int .i64 e0]) ∧ Below w.heap.size w w' := by
  by_cases h1 : p < 0 ∨ (s.size : Int) < p
  · have hr0 := hr
    unfold sgR at hr
    rw [if_pos h1] at hr
    have Hr := Lib.hid (tup3 hr)
    clear hr hr0
    by_cases hp0 : p < 0
    · go_enter Try.func40, Try.ntmps40
      go_wp2_with fail
      go_ret3
      exact ⟨congrArg Ending.returned Hr.out, Below.refl _ _⟩
    · have hd : decide (p < 0) = false := by simpa using hp0
      have hp1 : (s.size : Int) < p := by omega
      go_enter Try.func40, Try.ntmps40
      go_wp2_with fail
      go_ret3
      exact ⟨congrArg Ending.returned Hr.out, Below.refl _ _⟩
  · obtain ⟨q, rfl⟩ := Int.eq_ofNat_of_zero_le (show 0 ≤ p by omega)
    have hq : q ≤ s.size := by omega
    have hd0 : decide ((q : Int) < 0) = false := by simp
    have hd1 : decide (s.size < q) = false := by simp; omega
    by_cases h2 : q = s.size
    · unfold sgR at hr
      rw [if_neg h1, if_pos (by omega)] at hr
      have Hr := Lib.hid (tup3 hr)
      clear hr h1
      have hb : ((q : Int) == (s.size : Int)) = true := beq_iff_eq.2 (by omega)
      have H2 := Lib.hid h2
      clear h2
      go_enter Try.func40, Try.ntmps40
      go_wp2_with fail
      go_ret3
      exact ⟨congrArg Ending.returned Hr.out, Below.refl _ _⟩
    · have hlt : q < s.size := by omega
      have hb : ((q : Int) == (s.size : Int)) = false := beq_eq_false_iff_ne.2 (by omega)
      have hg1 : s.data.toList[q]? = some s[q] := by
        rw [List.getElem?_eq_getElem (by rw [len_data]; exact hlt)]; rfl
      by_cases h3 : s[q] = 166
      · obtain ⟨⟨n, fr, er⟩, hg⟩ : ∃ r, getR s.data.toList ((q : Int) + 1) = r := ⟨_, rfl⟩
        have hf := rdAt_facts hg (by decide)
        rw [len_data] at hf
        by_cases h4 : er = 0
        · subst h4
          obtain ⟨_, _, hto, hle, hp0⟩ : (0:Int) = 0 ∧ n ≤ 9223372036854775807 ∧ (q : Int) + 1 < fr ∧ fr ≤ s.size ∧ 0 ≤ (q : Int) + 1 := by
            rcases hf with h | h
            · exact h
            · omega
          obtain ⟨f, rfl⟩ := Int.eq_ofNat_of_zero_le (show 0 ≤ fr by omega)
          by_cases h5 : 8192 < n
          · unfold sgR at hr
            rw [if_neg h1, if_neg (by omega), Int.toNat_natCast, if_neg (by simp [hg1, h3]), hg] at hr
            simp only at hr
            rw [if_neg (by simp), if_pos h5] at hr
            have Hr := Lib.hid (tup3 hr)
            have Hg := Lib.hid hg
            have h5' : (8192 : Int) < n := by omega
            have h5'' : (n : Int) ≤ 9223372036854775807 := by omega
            clear hr h1 hg hg1 hf h5 h2
            go_enter Try.func40, Try.ntmps40
            go_wp2_with fail
            refine (rget_any s _ _ n f 0 (by omega) Hg.out).mono ?_
            rintro e w0 ⟨rfl, rfl⟩
            go_wp2_with fail
            go_ret3
            exact ⟨congrArg Ending.returned Hr.out, Below.refl _ _⟩
          · by_cases h6 : (s.size : Int) < f + n + 4
            · unfold sgR at hr
              rw [if_neg h1, if_neg (by omega), Int.toNat_natCast, if_neg (by simp [hg1, h3]), hg] at hr
              simp only at hr
              rw [if_neg (by simp), if_neg h5, if_pos h6] at hr
              have Hr := Lib.hid (tup3 hr)
              have Hg := Lib.hid hg
              clear hr h1 hg hg1 hf h2
              go_enter Try.func40, Try.ntmps40
              go_wp2_with fail
              refine (rget_any s _ _ n f 0 (by omega) Hg.out).mono ?_
              rintro e w0 ⟨rfl, rfl⟩
              go_wp2_with fail
              go_ret3
              exact ⟨congrArg Ending.returned Hr.out, Below.refl _ _⟩
            · rw [sgR_end hlt h3 hg (by omega) (by omega)] at hr
              refine (rsget_in s q f n w hs hlt h3 hg (by omega) (by omega) (by omega)).mono ?_
              rintro e w' ⟨rfl, hb⟩
              refine ⟨?_, hb⟩
              split at hr
              · rename_i hc
                rw [if_pos hc, tup3 hr]
              · rename_i hc
                rw [if_neg hc, tup3 hr]
        · unfold sgR at hr
          rw [if_neg h1, if_neg (by omega), Int.toNat_natCast, if_neg (by simp [hg1, h3]), hg] at hr
          simp only at hr
          rw [if_pos h4] at hr
          have Hr := Lib.hid (tup3 hr)
          have Hg := Lib.hid hg
          have hbe : (er != 0) = true := by simpa using h4
          clear hr h1 hg hg1 hf h2 h4
          go_enter Try.func40, Try.ntmps40
          go_wp2_with fail
          refine (rget_any s _ _ n fr er (by omega) Hg.out).mono ?_
          rintro e w0 ⟨rfl, rfl⟩
          go_wp2_with fail
          go_ret3
          exact ⟨congrArg Ending.returned Hr.out, Below.refl _ _⟩
      · unfold sgR at hr
        rw [if_neg h1, if_neg (by omega), Int.toNat_natCast, if_pos (by rw [hg1]; simpa using h3)] at hr
        have Hr := Lib.hid (tup3 hr)
        obtain ⟨c, hc⟩ : ∃ c, s[q] = c := ⟨_, rfl⟩
        have hbc : ((c.toNat : Int) != 166) = true := by
          rw [hc] at h3
          have : c.toNat ≠ 166 := fun h => h3 (UInt8.toNat_inj.1 h)
          simp; omega
        clear hr h1 hg1 h3 h2
        go_enter Try.func40, Try.ntmps40
        go_wp2_with fail
        go_ret3
        exact ⟨congrArg Ending.returned Hr.out, Below.refl _ _⟩

set_option maxHeartbeats 1000000 in
theorem sreads_walk (s : ByteArray) (p : Int) (w : World) (hs : s.size ≤ 9223372036854775807) :
    Calls Try.prog 11 #[.string s, .int .i64 p] w fun e w' => e = .returned (.bool true) ∧ Below w.heap.size w w' := by
  have hS := shortS_size 10000 s
  have Hsh := Lib.hid (sshort_any s w hs)
  obtain ⟨S, hSe⟩ : ∃ S, shortS 10000 s = S := ⟨_, rfl⟩
  rw [hSe] at hS Hsh
  clear hSe
  obtain ⟨⟨x, m, e0⟩, hr⟩ : ∃ r, sgR S p = r := ⟨_, rfl⟩
  have Hr := Lib.hid hr
  clear hr
  have h0 : ((crc (ByteArray.mk #[]).data.toList : Int) != 0) = true := by decide
  go_enter Try.func11, Try.ntmps11
  go_wp2_with fail
  refine (Hsh.out).mono ?_
  rintro e w0 ⟨rfl, rfl⟩
  go_wp2_with fail
  refine (sget_any S p _ x m e0 (by omega) Hr.out).mono ?_
  rintro e w1 ⟨rfl, hb1⟩
  go_wp2_with fail
  refine (rsget_any S p _ x m e0 (by omega) Hr.out).mono ?_
  rintro e w2 ⟨rfl, hb2⟩
  go_wp2_with fail
  refine (sum_any ⟨#[]⟩ _ (by decide)).mono ?_
  rintro e w0 ⟨rfl, rfl⟩
  go_wp2_with fail
  go_ret
  exact ⟨rfl, Below.then hb1 hb2⟩
end Go.Proofs.Ytgpifbdjcoiilaa
