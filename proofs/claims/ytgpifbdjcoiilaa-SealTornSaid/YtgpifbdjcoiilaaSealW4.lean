/-
  WALKS of layer 3: Get of seal and of the reference, at any place.
-/
import Derived.Test.YtgpifbdjcoiilaaSealW3
namespace Go.Proofs.Ytgpifbdjcoiilaa
open Go.RowKit

theorem sgR_end {s : ByteArray} {p fr n : Nat} (hp : p < s.size) (h166 : s[p] = 166) (hg : getR s.data.toList ((p : Int) + 1) = (n, (fr : Int), 0)) (hn : n ≤ 8192) (hend : fr + n + 4 ≤ s.size) :
    sgR s p = if be4S (crc (s.extract p (fr + n)).data.toList) = s.extract (fr + n) (fr + n + 4) then (s.extract fr (fr + n), (fr : Int) + n + 4, 0) else (⟨#[]⟩, 0, 30) := by
  unfold sgR
  rw [if_neg (by omega), if_neg (by omega), Int.toNat_natCast]
  have h1 : s.data.toList[p]? = some 166 := by
    rw [List.getElem?_eq_getElem (by rw [len_data]; exact hp), ← h166]; rfl
  rw [if_neg (by simp [h1]), hg]
  simp only
  rw [if_neg (by simp), if_neg (by omega), if_neg (by omega), Int.toNat_natCast]

theorem tup3 {x : ByteArray} {m e : Int} {y : ByteArray} {m' e' : Int} (h : (x, m, e) = (y, m', e')) : Value.tuple #[.string x, .int .i64 m, .int .i64 e] = .tuple #[.string y, .int .i64 m', .int .i64 e'] := by
  simp only [Prod.mk.injEq] at h; rw [h.1, h.2.1, h.2.2]

set_option maxHeartbeats 1000000 in
set_option maxRecDepth 100000 in
theorem sget_any (s : ByteArray) (p : Int) (w : World) (x : ByteArray) (m e0 : Int) (hs : s.size ≤ 140737488355328) (hr : sgR s p = (x, m, e0)) :
    Calls Try.prog 39 #[.string s, .int .i64 p] w fun e w' => e = .returned (.tuple #[.string x, .int .i64 m, .int .i64 e0]) ∧ Below w.heap.size w w' := by
  by_cases h1 : p < 0 ∨ (s.size : Int) < p
  · have hr0 := hr
    unfold sgR at hr
    rw [if_pos h1] at hr
    have Hr := Lib.hid (tup3 hr)
    clear hr hr0
    by_cases hp0 : p < 0
    · go_enter Try.func39, Try.ntmps39
      go_wp2_with fail
      go_ret3
      exact ⟨congrArg Ending.returned Hr.out, Below.refl _ _⟩
    · have hd : decide (p < 0) = false := by simpa using hp0
      have hp1 : (s.size : Int) < p := by omega
      go_enter Try.func39, Try.ntmps39
      go_wp2_with fail
      go_ret3
      exact ⟨congrArg Ending.returned Hr.out, Below.refl _ _⟩
  · obtain ⟨q, rfl⟩ := Int.eq_ofNat_of_zero_le (show 0 ≤ p by omega)
    have hq : q ≤ s.size := by omega
    have hd0 : decide ((q : Int) < 0) = false := by simp
    have hd1 : decide (s.size < q) = false := by simp; omega
    by_cases h2 : q = s.size
    · unfold sgR at hr
      rw [if_neg h1, if_pos (by omega)] at hr
      have Hr := Lib.hid (tup3 hr)
      clear hr h1
      have hb : ((q : Int) == (s.size : Int)) = true := beq_iff_eq.2 (by omega)
      have H2 := Lib.hid h2
      clear h2
      go_enter Try.func39, Try.ntmps39
      go_wp2_with fail
      go_ret3
      exact ⟨congrArg Ending.returned Hr.out, Below.refl _ _⟩
    · have hlt : q < s.size := by omega
      have hb : ((q : Int) == (s.size : Int)) = false := beq_eq_false_iff_ne.2 (by omega)
      have hg1 : s.data.toList[q]? = some s[q] := by
        rw [List.getElem?_eq_getElem (by rw [len_data]; exact hlt)]; rfl
      by_cases h3 : s[q] = 166
      · obtain ⟨⟨n, fr, er⟩, hg⟩ : ∃ r, getR s.data.toList ((q : Int) + 1) = r := ⟨_, rfl⟩
        have hf := rdAt_facts hg (by decide)
        rw [len_data] at hf
        by_cases h4 : er = 0
        · subst h4
          obtain ⟨_, _, hto, hle, hp0⟩ : (0:Int) = 0 ∧ n ≤ 9223372036854775807 ∧ (q : Int) + 1 < fr ∧ fr ≤ s.size ∧ 0 ≤ (q : Int) + 1 := by
            rcases hf with h | h
            · exact h
            · omega
          obtain ⟨f, rfl⟩ := Int.eq_ofNat_of_zero_le (show 0 ≤ fr by omega)
          by_cases h5 : 8192 < n
          · unfold sgR at hr
            rw [if_neg h1, if_neg (by omega), Int.toNat_natCast, if_neg (by simp [hg1, h3]), hg] at hr
            simp only at hr
            rw [if_neg (by simp), if_pos h5] at hr
            have Hr := Lib.hid (tup3 hr)
            have Hg := Lib.hid hg
            have h5' : (8192 : Int) < n := by omega
            have h5'' : (n : Int) ≤ 9223372036854775807 := by omega
            clear hr h1 hg hg1 hf h5 h2
            go_enter Try.func39, Try.ntmps39
            go_wp2_with fail
            refine (get_any s _ _ n f 0 (by omega) Hg.out).mono ?_
            rintro e w0 ⟨rfl, rfl⟩
            go_wp2_with fail
            go_ret3
            exact ⟨congrArg Ending.returned Hr.out, Below.refl _ _⟩
          · by_cases h6 : (s.size : Int) < f + n + 4
            · unfold sgR at hr
              rw [if_neg h1, if_neg (by omega), Int.toNat_natCast, if_neg (by simp [hg1, h3]), hg] at hr
              simp only at hr
              rw [if_neg (by simp), if_neg h5, if_pos h6] at hr
              have Hr := Lib.hid (tup3 hr)
              have Hg := Lib.hid hg
              clear hr h1 hg hg1 hf h2
              go_enter Try.func39, Try.ntmps39
              go_wp2_with fail
              refine (get_any s _ _ n f 0 (by omega) Hg.out).mono ?_
              rintro e w0 ⟨rfl, rfl⟩
              go_wp2_with fail
              go_ret3
              exact ⟨congrArg Ending.returned Hr.out, Below.refl _ _⟩
            · rw [sgR_end hlt h3 hg (by omega) (by omega)] at hr
              refine (sget_in s q f n w hs hlt h3 hg (by omega) (by omega) (by omega) _ rfl).mono ?_
              rintro e w' ⟨rfl, hb⟩
              refine ⟨?_, hb⟩
              split at hr
              · rename_i hc
                rw [if_pos hc, tup3 hr]
              · rename_i hc
                rw [if_neg hc, tup3 hr]
        · unfold sgR at hr
          rw [if_neg h1, if_neg (by omega), Int.toNat_natCast, if_neg (by simp [hg1, h3]), hg] at hr
          simp only at hr
          rw [if_pos h4] at hr
          have Hr := Lib.hid (tup3 hr)
          have Hg := Lib.hid hg
          have hbe : (er != 0) = true := by simpa using h4
          clear hr h1 hg hg1 hf h2 h4
          go_enter Try.func39, Try.ntmps39
          go_wp2_with fail
          refine (get_any s _ _ n fr er (by omega) Hg.out).mono ?_
          rintro e w0 ⟨rfl, rfl⟩
          go_wp2_with fail
          go_ret3
          exact ⟨congrArg Ending.returned Hr.out, Below.refl _ _⟩
      · unfold sgR at hr
        rw [if_neg h1, if_neg (by omega), Int.toNat_natCast, if_pos (by rw [hg1]; simpa using h3)] at hr
        have Hr := Lib.hid (tup3 hr)
        obtain ⟨c, hc⟩ : ∃ c, s[q] = c := ⟨_, rfl⟩
        have hbc : ((c.toNat : Int) != 166) = true := by
          rw [hc] at h3
          have : c.toNat ≠ 166 := fun h => h3 (UInt8.toNat_inj.1 h)
          simp; omega
        clear hr h1 hg1 h3 h2
        go_enter Try.func39, Try.ntmps39
        go_wp2_with fail
        go_ret3
        exact ⟨congrArg Ending.returned Hr.out, Below.refl _ _⟩
end Go.Proofs.Ytgpifbdjcoiilaa
