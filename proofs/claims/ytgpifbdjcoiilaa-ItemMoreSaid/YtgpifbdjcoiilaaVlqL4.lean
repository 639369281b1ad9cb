/-
  WALKS of the laws of layer 2: VlqOnce.
-/
import Derived.Test.YtgpifbdjcoiilaaVlqL3
import Derived.Deep.RegionWith
import Derived.Deep.DeepCutAuto
import Derived.Deep.QuietTactic
import Derived.BigQuiet
import Derived.Deep.RegionHeld3
namespace Go.Proofs.Ytgpifbdjcoiilaa
open Go.RowKit

theorem rdAt_once {most : Nat} (hm : most < 18446744073709551616) {s : ByteArray} {p : Int} {n : Nat} {tt : Int} (h : rdAt most s.data.toList p = (n, tt, 0)) :
    ∃ q t : Nat, p = q ∧ tt = t ∧ q < t ∧ t ≤ s.size ∧ n ≤ most ∧ s.extract q t = digS n := by
  have hf := rdAt_facts h hm
  rw [len_data] at hf
  obtain ⟨_, hn, hto, hle, hp0⟩ : (0:Int) = 0 ∧ n ≤ most ∧ p < tt ∧ tt ≤ s.size ∧ 0 ≤ p := by
    rcases hf with h | h
    · exact h
    · omega
  obtain ⟨q, rfl⟩ := Int.eq_ofNat_of_zero_le hp0
  obtain ⟨t, rfl⟩ := Int.eq_ofNat_of_zero_le (show 0 ≤ tt by omega)
  refine ⟨q, t, rfl, rfl, by omega, by omega, hn, ?_⟩
  unfold rdAt at h
  rw [if_neg (by rw [len_data]; omega), Int.toNat_natCast] at h
  obtain ⟨⟨a, k, e⟩, hr⟩ : ∃ r, rd most (s.data.toList.drop q) 0 0 = r := ⟨_, rfl⟩
  rw [hr] at h
  simp only at h
  by_cases he : e = 0
  · subst he
    simp only [if_true, Prod.mk.injEq] at h
    obtain ⟨rfl, hk, _⟩ := h
    have := (rd_is_dig hm hr).1
    apply bytes_ext
    rw [data_extract, digS_data, ← this]
    congr 1; omega
  · rw [if_neg he] at h
    simp only [Prod.mk.injEq] at h
    exact absurd h.2.2 he

theorem gtR_once {s x : ByteArray} {p m : Int} (h : gtR s p = (x, m, 0)) :
    ∃ q t : Nat, p = q ∧ m = t ∧ q < t ∧ t ≤ s.size ∧ x.size ≤ 4096 ∧ s.extract q t = digS x.size ++ x := by
  obtain ⟨⟨n, tt, er⟩, hg⟩ : ∃ r, getR s.data.toList p = r := ⟨_, rfl⟩
  unfold gtR at h
  rw [hg] at h
  simp only at h
  by_cases h1 : er = 0
  · subst h1
    obtain ⟨q, t, rfl, rfl, hqt, hts, hn, hx⟩ := rdAt_once (by decide) hg
    rw [if_neg (by simp)] at h
    by_cases h2 : 4096 < n
    · rw [if_pos h2] at h; simp at h
    · rw [if_neg h2] at h
      by_cases h3 : (s.size : Int) < t + n
      · rw [if_pos h3] at h; simp at h
      · rw [if_neg h3, Int.toNat_natCast] at h
        simp only [Prod.mk.injEq] at h
        obtain ⟨rfl, rfl, _⟩ := h
        have hsz : (s.extract t (t + n)).size = n := by rw [ByteArray.size_extract]; omega
        refine ⟨q, t + n, rfl, by omega, by omega, by omega, by omega, ?_⟩
        rw [hsz, ← hx]
        apply bytes_ext
        simp only [data_app, data_extract]
        rw [show t + n - q = (t - q) + n by omega, List.take_add, List.drop_drop]
        rw [show q + (t - q) = t by omega, Nat.add_sub_cancel_left]
  · rw [if_pos h1] at h
    simp only [Prod.mk.injEq] at h
    exact absurd h.2.2 h1

theorem gtR_err {s x : ByteArray} {p m e : Int} (h : gtR s p = (x, m, e)) (he : e ≠ 0) : x = ⟨#[]⟩ ∧ m = 0 := by
  obtain ⟨⟨n, tt, er⟩, hg⟩ : ∃ r, getR s.data.toList p = r := ⟨_, rfl⟩
  unfold gtR at h
  rw [hg] at h
  simp only at h
  by_cases h1 : er = 0
  · rw [if_neg (by simpa using h1)] at h
    by_cases h2 : 4096 < n
    · rw [if_pos h2] at h; simp only [Prod.mk.injEq] at h; exact ⟨h.1.symm, h.2.1.symm⟩
    · rw [if_neg h2] at h
      by_cases h3 : (s.size : Int) < tt + n
      · rw [if_pos h3] at h; simp only [Prod.mk.injEq] at h; exact ⟨h.1.symm, h.2.1.symm⟩
      · rw [if_neg h3] at h
        simp only [Prod.mk.injEq] at h
        exact absurd h.2.2.symm he
  · rw [if_pos h1] at h
    simp only [Prod.mk.injEq] at h
    exact ⟨h.1.symm, h.2.1.symm⟩

theorem Below.drewN' {B : Nat} {a w : World} (h : Below B a w) {n : Nat} : Below B a (w.drewN n) := ⟨h.os, h.tape, h.output, h.size, h.block⟩
set_option maxHeartbeats 2000000 in
set_option maxRecDepth 100000 in
theorem once_walk (s : ByteArray) (p : Int) (w : World) (hs : s.size ≤ 9223372036854775807) :
    Calls Try.prog 5 #[.string s, .int .i64 p] w fun e w' => e = .returned (.bool true) ∧ Below w.heap.size w w' := by
  have hS := shortS_size 6000 s
  have Hshort := Lib.hid (short_any s w hs)
  obtain ⟨S, hSe⟩ : ∃ S, shortS 6000 s = S := ⟨_, rfl⟩
  rw [hSe] at hS
  have HSe := Lib.hid hSe
  clear hSe
  have hS6' : S.size ≤ 9223372036854775807 := by omega
  obtain ⟨⟨n, tt, er⟩, hg⟩ : ∃ r, getR S.data.toList p = r := ⟨_, rfl⟩
  obtain ⟨⟨n2, tt2, er2⟩, hg2⟩ : ∃ r, gsR S.data.toList p = r := ⟨_, rfl⟩
  obtain ⟨⟨x, m, e0⟩, hg3⟩ : ∃ r, gtR S p = r := ⟨_, rfl⟩
  have Hg := Lib.hid hg
  have Hg2 := Lib.hid hg2
  have Hg3 := Lib.hid hg3
  clear hg hg2 hg3
  have hz : (digS (zz 0)).size = 1 := by decide
  go_enter Try.func5, Try.ntmps5
  go_wp2_with fail
  refine (Hshort.out).mono ?_
  rintro e w0 ⟨rfl, rfl⟩
  rw [show (if 6000 < s.size then s.extract 0 6000 else s) = S from HSe.out]
  go_wp2_with fail
  refine (signed_any 0 _ (by decide) (by decide)).mono ?_
  rintro e w1 ⟨rfl, hb1⟩
  go_wp2_with fail
  refine (get_any S p _ n tt er hS6' Hg.out).mono ?_
  rintro e w0 ⟨rfl, rfl⟩
  go_upto_if 31 with fail
  go_cut [] (fun W => Below w.heap.size w W)
  case first =>
    by_cases h0 : er = 0
    · subst h0
      obtain ⟨q, t, rfl, rfl, hqt, hts, hn, hx⟩ := rdAt_once (by decide) Hg.out
      have hn0 : 0 ≤ (n : Int) := by omega
      have hn' : (n : Int) ≤ 9223372036854775807 := by omega
      clear hn
      go_wp2_with fail
      refine (put_yes _ _ hn0 hn').mono ?_
      rintro e w2 ⟨rfl, hb2⟩
      rw [Int.toNat_natCast]
      go_wp2_with fail
      go_meet
      case rel => exact Below.then hb1 hb2
    · have hb : (er == 0) = false := by simpa using h0
      go_wp2_with fail
      go_meet
      case rel => exact hb1
  case rest =>
    go_wp2_with fail
    refine (gets_any S p _ n2 tt2 er2 hS6' Hg2.out).mono ?_
    rintro e w0 ⟨rfl, rfl⟩
    go_upto_region 10 with fail
    go_cut [86] (fun v W => v = .bool false ∧ Below w.heap.size w W)
    case first =>
      by_cases h0 : er2 = 0
      · subst h0
        obtain ⟨q, t, rfl, rfl, hqt, hts, hn, hx⟩ := rdAt_once (by decide) Hg2.out
        have hr := unz_rng (Nat.lt_succ_of_le hn)
        have hsg := fun W => signed_any (unz n2) W hr.1 hr.2
        rw [zz_unz] at hsg
        have Hsg := fun W => Lib.hid (hsg W)
        clear hsg hr hn
        have b1 : (0 : Int) ≤ (q : Int) := by omega
        have b2 : (q : Int) ≤ (t : Int) := by omega
        have b3 : (t : Int) ≤ (S.size : Int) := by omega
        have b4 : decide (t ≤ q) = false := by simp; omega
        have b5 : decide (S.size < t) = false := by simp; omega
        go_region_held3 (fun w' => Below w.heap.size w w') (first | assumption | exact Below.drew (by assumption) | exact Below.then (by assumption) (by assumption)) (first | (go_at_call 22; refine ((Hsg _).out).mono ?_; rintro e w2 ⟨rfl, hb2⟩))
        all_goals (go_wp2_with fail; go_meet; exact ⟨rfl, by assumption⟩)
      · have hb : (er2 == 0) = false := by simpa using h0
        go_quiet (fail)
        go_wp2_with fail
        go_meet
        case rel => exact ⟨rfl, Below.drewN' hcut⟩
    case rest =>
      obtain ⟨rfl, hbw⟩ := hcut
      go_wp2_with fail
      refine (gett_any S p _ x m e0 hS6' Hg3.out).mono ?_
      rintro e w0 ⟨rfl, rfl⟩
      by_cases h0 : e0 = 0
      · subst h0
        obtain ⟨q, t, rfl, rfl, hqt, hts, hn, hx⟩ := gtR_once Hg3.out
        go_wp2_with fail
        refine (textS_yes _ _ hn).mono ?_
        rintro e w2 ⟨rfl, hb2⟩
        go_wp2_with fail
        go_ret
        exact ⟨rfl, Below.then hbw hb2⟩
      · have hb : (e0 == 0) = false := by simpa using h0
        have hb' : (e0 != 0) = true := by simpa using h0
        obtain ⟨rfl, rfl⟩ := gtR_err Hg3.out h0
        go_wp2_with fail
        go_ret
        exact ⟨rfl, hbw⟩
end Go.Proofs.Ytgpifbdjcoiilaa
