/-
  WALKS of layer 18: the law AlignFresh.
-/
import Derived.Test.YtenpgkkefielfaaAlignW22
import Derived.Test.YtenpgkkefielfaaAlignW21
import Derived.Test.YtenpgkkefielfaaAlignW23
set_option linter.unusedVariables false
set_option linter.unusedSimpArgs false
namespace Go.Proofs.Ytenpgkkefielfaa
open Go.RowKit

/-- A barrier. -/
def barI (n : Int) : It := ⟨4, ⟨#[]⟩, 0, 0, 0, n, 0, 0, ⟨#[]⟩, 0, 0⟩
theorem bar_wf {n : Int} (h : wfL n) : (barI n).Wf := ⟨by unfold wfL barI; simp, Nat.zero_le _, by unfold wfL barI; simp, by unfold wfL barI; simp, by unfold wfL barI; simp, h, by unfold wfL barI; simp, by unfold wfL barI; simp, Nat.zero_le _, by unfold wfL barI; simp, by unfold wfL barI; simp⟩
theorem fresh_cases (a : Aln) (i n : Int) :
    ((ofer a i (barI n)).done = 0 ∧ (ofer a i (barI n)).late = []) ∨ ((ofer a i (barI n)).er = 0 ∧ (ofer a i (barI n)).done = n ∧ (n == 0) = false ∧ (ofer a i (barI n)).a = newA' a.got.length ∧ (ofer a i (barI n)).late = lateTo a.held a.held.length) := by
  unfold ofer
  by_cases h : (hasA a i && rightI (barI n)) = true
  · rw [if_pos h]
    by_cases hg : a.got[i.toNat]! = true
    · rw [if_pos hg]
      split <;> exact .inl ⟨rfl, rfl⟩
    · rw [if_neg hg, if_pos (show (barI n).kind = 4 from rfl)]
      simp only [Bool.and_eq_true] at h
      have hb := bar_n h.2 rfl
      split
      · exact .inl ⟨rfl, rfl⟩
      · split
        · exact .inl ⟨rfl, rfl⟩
        · exact .inr ⟨rfl, rfl, by have : 1 ≤ n := hb.1; simp; omega, rfl, rfl⟩
  · rw [if_neg h]
    exact .inl ⟨rfl, rfl⟩
def FoRel (held : List Hl) (base : Nat) (w0 : World) (u i : Value) (wr : World) : Prop := ∃ k : Nat, k ≤ held.length ∧ i = .int .i64 k ∧ wr.ownsRow base 49 12 u (lateTo held k).length ((lateTo held k).flatMap Lt.cs) ∧ Below w0.heap.size w0 wr
def FiRel (held : List Hl) (k : Nat) (l : List It) (base : Nat) (w0 : World) (u i : Value) (wr : World) : Prop := ∃ j : Nat, j ≤ l.length ∧ i = .int .i64 j ∧ wr.ownsRow base 49 12 u ((lateTo held k).length + j) ((lateTo held k).flatMap Lt.cs ++ (lateL k (l.take j)).flatMap Lt.cs) ∧ Below w0.heap.size w0 wr
set_option maxRecDepth 100000 in
set_option maxHeartbeats 8000000 in
theorem fresh_walk (a : Aln) (i n : Int) (hi : wfL i) (hn : wfL n) (va : Value) (w : World) (ha : AlAt w va a) :
    Calls Try.prog 4 #[va, .int .i64 i, .int .i64 n] w fun e w' => e = .returned (.bool true) ∧ Below w.heap.size w w' := by
  have HV := Lib.hid ha
  have HI := Lib.hid hi
  have HN := Lib.hid hn
  have HS := Lib.hid (fun v W hW => asmall_any a v W hW)
  obtain ⟨q, hq⟩ : ∃ q, rightA a = q := ⟨_, rfl⟩
  have HR := Lib.hid (fun v W hW => aright_any a v W hW q hq)
  have Hq := Lib.hid hq
  obtain ⟨Ag, cg, Ah, ch, rfl, -, -, -, hwn, hlg, hlh⟩ := al_form ha
  have HWN := Lib.hid hwn
  unfold maxLen at hlg hlh
  unfold wfL at hi hn hwn
  obtain ⟨lg, hlg'⟩ : ∃ n, a.got.length = n := ⟨_, rfl⟩
  obtain ⟨lh, hlh'⟩ : ∃ n, a.held.length = n := ⟨_, rfl⟩
  have HLG := Lib.hid hlg'
  have HLH := Lib.hid hlh'
  rw [hlg', hlh'] at HV
  rw [hlg'] at hlg
  rw [hlh'] at hlh
  rw [hlg', hlh']
  clear ha hlg' hlh' hq
  go_enter Try.func4, Try.ntmps4
  go_wp2_with fail
  have KV := HV
  obtain ⟨W1, hW2⟩ : ∃ X, X = (w).alloc (.cells #[.int .i64 a.n, .slice Ag lg cg, .slice Ah lh ch] 26) := ⟨_, rfl⟩
  rw [← hW2]
  have hb3 : Below w.heap.size w W1 := by rw [hW2]; exact bel_alloc (Below.refl _ _) _
  have Na := Lib.hid (show W1.heap[w.heap.size]? = some (.cells #[.int .i64 a.n, .slice Ag lg cg, .slice Ah lh ch] 26 (0, 0)) by rw [hW2]; exact heap_at (w) _ (w.heap.size) (by simp))
  clear hW2
  have Z := Lib.hid (AlAt.below KV.out hb3)
  clear KV
  have KV := Z
  clear Z
  have BB4 := Lib.hid hb3
  clear hb3
  have Bla := Na
  clear Na
  have za := blk_lt Bla.out
  have xa0 := cellsAt Bla.out 0
  have xa1 := cellsAt Bla.out 1
  have xa2 := cellsAt Bla.out 2
  have fa := frozAt Bla.out
  simp at xa0 xa1 xa2
  refine (HS.out _ _ KV.out).mono ?_
  rintro e w5 ⟨⟨qs, rfl⟩, hb6⟩
  clear za fa xa0 xa1 xa2
  have Z := Lib.hid (heap_below Bla.out hb6)
  clear Bla
  have Bla := Z
  clear Z
  have Z := Lib.hid (AlAt.below KV.out hb6)
  clear KV
  have KV := Z
  clear Z
  have BB7 := Lib.hid (bThen BB4.out hb6)
  clear hb6
  have za := blk_lt Bla.out
  have xa0 := cellsAt Bla.out 0
  have xa1 := cellsAt Bla.out 1
  have xa2 := cellsAt Bla.out 2
  have fa := frozAt Bla.out
  simp at xa0 xa1 xa2
  cases qs with
  | false =>
    go_wp2_with fail
    refine (aalive_any _).mono ?_
    rintro e w8 ⟨rfl, hb9⟩
    clear za fa xa0 xa1 xa2
    have Z := Lib.hid (heap_below Bla.out hb9)
    clear Bla
    have Bla := Z
    clear Z
    have Z := Lib.hid (AlAt.below KV.out hb9)
    clear KV
    have KV := Z
    clear Z
    have BB10 := Lib.hid (bThen BB7.out hb9)
    clear hb9
    go_wp2_with fail
    go_ret
    exact ⟨rfl, BB10.out⟩
  | true =>
  go_wp2_with fail
  refine (HR.out _ _ KV.out).mono ?_
  rintro e w8 ⟨rfl, hb9⟩
  clear za fa xa0 xa1 xa2
  have Z := Lib.hid (heap_below Bla.out hb9)
  clear Bla
  have Bla := Z
  clear Z
  have Z := Lib.hid (AlAt.below KV.out hb9)
  clear KV
  have KV := Z
  clear Z
  have BB10 := Lib.hid (bThen BB7.out hb9)
  clear hb9
  have za := blk_lt Bla.out
  have xa0 := cellsAt Bla.out 0
  have xa1 := cellsAt Bla.out 1
  have xa2 := cellsAt Bla.out 2
  have fa := frozAt Bla.out
  simp at xa0 xa1 xa2
  cases q with
  | false =>
    go_wp2_with fail
    refine (aalive_any _).mono ?_
    rintro e w11 ⟨rfl, hb12⟩
    clear za fa xa0 xa1 xa2
    have Z := Lib.hid (heap_below Bla.out hb12)
    clear Bla
    have Bla := Z
    clear Z
    have Z := Lib.hid (AlAt.below KV.out hb12)
    clear KV
    have KV := Z
    clear Z
    have BB13 := Lib.hid (bThen BB10.out hb12)
    clear hb12
    go_wp2_with fail
    go_ret
    exact ⟨rfl, BB13.out⟩
  | true =>
  go_wp2_with fail
  refine (aalive_any _).mono ?_
  rintro e w11 ⟨rfl, hb12⟩
  clear za fa xa0 xa1 xa2
  have Z := Lib.hid (heap_below Bla.out hb12)
  clear Bla
  have Bla := Z
  clear Z
  have Z := Lib.hid (AlAt.below KV.out hb12)
  clear KV
  have KV := Z
  clear Z
  have BB13 := Lib.hid (bThen BB10.out hb12)
  clear hb12
  have za := blk_lt Bla.out
  have xa0 := cellsAt Bla.out 0
  have xa1 := cellsAt Bla.out 1
  have xa2 := cellsAt Bla.out 2
  have fa := frozAt Bla.out
  simp at xa0 xa1 xa2
  go_wp2_with fail
  have hlgh : lh = lg := by rw [← HLH.out, ← HLG.out]; exact ((right_P a).1 Hq.out).lh
  subst hlgh
  have hl8 : lh ≤ 8 := by rw [← HLG.out]; exact ((right_P a).1 Hq.out).l8
  have hl1 : 1 ≤ lh := by rw [← HLG.out]; exact ((right_P a).1 Hq.out).l1
  have HHL := Lib.hid ((right_P a).1 Hq.out).hl
  obtain ⟨b0, o0, rfl⟩ := held_some HV.out (by rw [HLH.out]; omega)
  obtain ⟨i0, hi0', hz0, hz1, hz2⟩ := info_parts info_lt
  have HII := Lib.hid hi0'
  have HZ0 := Lib.hid hz0
  have HZ1 := Lib.hid hz1
  have HZ2 := Lib.hid hz2
  clear hi0' hz0 hz1 hz2
  have hbs := Lib.hid (show w.heap.size + 1 ≤ w11.heap.size by have := blk_lt Bla.out; omega)
  clear za fa xa0 xa1 xa2
  go_loopw [7, 35] (fun u j wr => FoRel a.held w11.heap.size w11 u j wr) (fun _ j _ => lh - (intOf j).toNat)
  case atStart => exact ⟨0, Nat.zero_le _, rfl, by simpa [lateTo] using World.ownsRow_nil _ _ _ _, Below.refl _ _⟩
  case round =>
    obtain ⟨k, hk, rfl, hown, hbel⟩ := hrel
    rw [HLH.out] at hk
    have HO := Lib.hid hown
    have HB0 := Lib.hid hbel
    have hbw := hbel
    clear hown
    have hTL := lateTo_len (fun k x hx => (HHL.out k x hx).1) k (by rw [HLH.out]; exact hk)
    have Z := Lib.hid (heap_below Bla.out hbel)
    clear Bla
    have Bla := Z
    clear Z
    have Z := Lib.hid (AlAt.below KV.out hbel)
    clear KV
    have KV := Z
    clear Z
    have BB14 := Lib.hid (bThen BB13.out hbel)
    clear hbel
    by_cases hlt : k < lh
    · obtain ⟨y, hy⟩ : ∃ y, a.held[k]? = some y := ⟨_, List.getElem?_eq_getElem (by rw [HLH.out]; exact hlt)⟩
      obtain ⟨hbh, ch0, hya⟩ := held_at KV.out hy
      have hyl := (HHL.out k y hy).1
      have HY := Lib.hid hy
      have RY := Lib.hid hya
      obtain ⟨⟨Ay, cy, hye, -, -⟩, -, -⟩ := hya
      clear hy
      obtain ⟨yr, yl⟩ := y
      simp only at hye hyl
      subst hye
      simp only at ch0
      have hk0 : (0 : Int) ≤ (k : Int) := by omega
      have hk1 : (k : Int) < (lh : Int) := by omega
      go_wp2_with fail
      go_loopw [7, 42] (fun u j wr2 => FiRel a.held k yl w11.heap.size w11 u j wr2) (fun _ j _ => yl.length - (intOf j).toNat)
      case atStart => exact ⟨0, Nat.zero_le _, rfl, by simpa [lateL] using HO.out, hbw⟩
      case round =>
        obtain ⟨j, hj, rfl, hown, hbel⟩ := hrel
        have HB2 := Lib.hid hbel
        have HO2 := Lib.hid hown
        clear hbel hown
        clear hbh ch0
        have RY2 := Lib.hid (held_of (HV.out.below (bThen BB13.out HB2.out)) HY.out)
        by_cases hlt2 : j < yl.length
        · obtain ⟨z, hz⟩ : ∃ z, yl[j]? = some z := ⟨_, List.getElem?_eq_getElem hlt2⟩
          obtain ⟨b', o', c', e', hc', hb', hX⟩ := RY2.out.1.at_ hz
          injection e' with e1 _ e3
          subst e1 e3
          have c0 := hX 0 _ rfl
          have c1 := hX 1 _ rfl
          have c2 := hX 2 _ rfl
          have c3 := hX 3 _ rfl
          have c4 := hX 4 _ rfl
          have c5 := hX 5 _ rfl
          have c6 := hX 6 _ rfl
          have c7 := hX 7 _ rfl
          have c8 := hX 8 _ rfl
          have c9 := hX 9 _ rfl
          have c10 := hX 10 _ rfl
          have HIz := Lib.hid hz
          clear hX hz
          obtain ⟨y0, y1, y2, y3, y4, y5, y6, y7, y8, y9, y10⟩ := z
          simp only [Nat.add_zero] at c0 c1 c2 c3 c4 c5 c6 c7 c8 c9 c10
          go_upto_region 10 with fail
          obtain ⟨W4, hW4⟩ : ∃ W4, W4 = wr.alloc (.cells #[.int .i64 y0, .string y1, .int .i64 y2, .int .i64 y3, .int .i64 y4, .int .i64 y5, .int .i64 y6, .int .i64 y7, .string y8, .int .i64 y9, .int .i64 y10] 43) := ⟨_, rfl⟩
          rw [← hW4]
          have X4 := Lib.hid (show W4.heap[wr.heap.size]? = some (.cells #[.int .i64 y0, .string y1, .int .i64 y2, .int .i64 y3, .int .i64 y4, .int .i64 y5, .int .i64 y6, .int .i64 y7, .string y8, .int .i64 y9, .int .i64 y10] 43 (0, 0)) by rw [hW4]; exact heap_at _ _ _ rfl)
          have O4 := Lib.hid (show W4.ownsRow w11.heap.size 49 12 u7 ((lateTo a.held k).length + j) ((lateTo a.held k).flatMap Lt.cs ++ (lateL k (yl.take j)).flatMap Lt.cs) by rw [hW4]; exact HO2.out.alloc _)
          have B4 := Lib.hid (show Below w11.heap.size w11 W4 by rw [hW4]; exact bel_alloc HB2.out _)
          clear hW4 c0 c1 c2 c3 c4 c5 c6 c7 c8 c9 c10
          clear HB2 HO2
          obtain ⟨Au, cu, rfl⟩ := own_slice O4.out
          have xz := blk_lt X4.out
          have q0 := cellsAt X4.out 0
          have q1 := cellsAt X4.out 1
          have q2 := cellsAt X4.out 2
          have q3 := cellsAt X4.out 3
          have q4 := cellsAt X4.out 4
          have q5 := cellsAt X4.out 5
          have q6 := cellsAt X4.out 6
          have q7 := cellsAt X4.out 7
          have q8 := cellsAt X4.out 8
          have q9 := cellsAt X4.out 9
          have q10 := cellsAt X4.out 10
          simp at q0 q1 q2 q3 q4 q5 q6 q7 q8 q9 q10
          go_wp2_with (at_builtin; refine wpList_push _ rfl _ _ 44 rfl w11.heap.size 49 i0 (ltV ⟨0, itZ⟩) 12 112 Try.underlying44 HII.out HZ0.out HZ1.out HZ2.out rfl (by decide) _ _ _ rfl O4.out #[.int .i64 k, .int .i64 y0, .string y1, .int .i64 y2, .int .i64 y3, .int .i64 y4, .int .i64 y5, .int .i64 y6, .int .i64 y7, .string y8, .int .i64 y9, .int .i64 y10] 49 rfl rfl (by intro u hu; simp at hu; rcases hu with rfl | rfl | rfl | rfl | rfl | rfl | rfl | rfl | rfl | rfl | rfl | rfl <;> rfl) (by unfold maxLen; omega) (by omega) B4.out.size ?_)
          intro v5 W5 hown5 hb5 _
          have O5 := Lib.hid hown5
          have B5 := Lib.hid (B4.out.trans hb5)
          clear hown5 hb5 X4 xz q0 q1 q2 q3 q4 q5 q6 q7 q8 q9 q10
          go_wp2_with fail
          go_roundw
          case rel =>
            refine ⟨j + 1, by omega, by go_num, ?_, B5.out⟩
            have := O5.out
            rw [List.take_add_one, HIz.out]
            unfold lateL at this ⊢
            rw [List.map_append, List.flatMap_append]
            exact this
          case measure => simp [intOf]; omega
        · obtain rfl : j = yl.length := by omega
          go_wp2_with fail
          go_roundw
          case rel =>
            refine ⟨k + 1, by rw [HLH.out]; omega, by go_num, ?_, HB2.out⟩
            rw [lateTo_succ HY.out, List.length_append, lateL_len, List.flatMap_append]
            have := HO2.out
            rw [List.take_length] at this
            exact this
          case measure => simp [intOf]; omega
    · obtain rfl : k = lh := by omega
      have Z := Lib.hid (own_base HO.out hbs.out)
      clear HO HB0 hbw
      have HO := Z
      clear Z
      have za := blk_lt Bla.out
      have xa0 := cellsAt Bla.out 0
      have xa1 := cellsAt Bla.out 1
      have xa2 := cellsAt Bla.out 2
      have fa := frozAt Bla.out
      simp at xa0 xa1 xa2
      by_cases h0 : 0 < a.n
      · have t0 : decide (0 < a.n) = true := by simpa using h0
        go_wp2_with fail
        have HOF := offer_any a i HI.out (barI a.n) (bar_wf HWN.out) _ _ KV.out
        have HC := fresh_cases a i a.n
        obtain ⟨⟨ra, rp, rd, rl, re⟩, hR⟩ : ∃ R, ofer a i (barI a.n) = R := ⟨_, rfl⟩
        rw [hR] at HOF HC
        clear hR
        unfold itV barI at HOF
        simp only at HC
        rw [HLG.out, HLH.out] at HC
        refine HOF.mono ?_
        rintro e w15 ⟨⟨v2, a2, vl, rfl, ha2, hl2, -, hrow⟩, hb16⟩
        have HC2 := Lib.hid HC
        clear HC
        clear za fa xa0 xa1 xa2
        have Z := Lib.hid (heap_below Bla.out hb16)
        clear Bla
        have Bla := Z
        clear Z
        have Z := Lib.hid (AlAt.below KV.out hb16)
        clear KV
        have KV := Z
        clear Z
        have Z := Lib.hid (own_below HO.out hb16)
        clear HO
        have HO := Z
        clear Z
        have BB17 := Lib.hid (bThen BB14.out hb16)
        clear hb16
        obtain ⟨B1, d3, B2, d4, rfl⟩ := al_form4 ha2
        have KB := Lib.hid ha2
        have HLK := Lib.hid hl2
        have HRW := Lib.hid hrow
        clear ha2 hl2 hrow
        obtain ⟨Al, cl, rfl⟩ := row_form HRW.out
        have za := blk_lt Bla.out
        have xa0 := cellsAt Bla.out 0
        have xa1 := cellsAt Bla.out 1
        have xa2 := cellsAt Bla.out 2
        have fa := frozAt Bla.out
        simp at xa0 xa1 xa2
        go_upto_region 16 with fail
        obtain ⟨W18, hW19⟩ : ∃ X, X = (w15).alloc (.cells #[.int .i64 a2.n, .slice B1 a2.got.length d3, .slice B2 a2.held.length d4] 26) := ⟨_, rfl⟩
        rw [← hW19]
        have hb20 : Below w15.heap.size w15 W18 := by rw [hW19]; exact bel_alloc (Below.refl _ _) _
        have Nb := Lib.hid (show W18.heap[w15.heap.size]? = some (.cells #[.int .i64 a2.n, .slice B1 a2.got.length d3, .slice B2 a2.held.length d4] 26 (0, 0)) by rw [hW19]; exact heap_at (w15) _ (w15.heap.size) (by simp))
        clear hW19
        have Z := Lib.hid (heap_below Bla.out hb20)
        clear Bla
        have Bla := Z
        clear Z
        have Z := Lib.hid (AlAt.below KV.out hb20)
        clear KV
        have KV := Z
        clear Z
        have Z := Lib.hid (own_below HO.out hb20)
        clear HO
        have HO := Z
        clear Z
        have Z := Lib.hid (AlAt.below KB.out hb20)
        clear KB
        have KB := Z
        clear Z
        have Z := Lib.hid (Row.below HRW.out hb20)
        clear HRW
        have HRW := Z
        clear Z
        have BB21 := Lib.hid (bThen BB17.out hb20)
        clear hb20
        have Blb := Nb
        clear Nb
        clear za fa xa0 xa1 xa2
        have za := blk_lt Bla.out
        have xa0 := cellsAt Bla.out 0
        have xa1 := cellsAt Bla.out 1
        have xa2 := cellsAt Bla.out 2
        have fa := frozAt Bla.out
        simp at xa0 xa1 xa2
        have zb := blk_lt Blb.out
        have xb0 := cellsAt Blb.out 0
        have xb1 := cellsAt Blb.out 1
        have xb2 := cellsAt Blb.out 2
        have fb := frozAt Blb.out
        simp at xb0 xb1 xb2
        rcases HC2.out with ⟨hd, hl⟩ | ⟨hre, hd, hz, ha, hl⟩
        · subst hd hl
          simp only [List.length_nil]
          rcases Bool.eq_false_or_eq_true (re != 0) with t9 | t9
          · go_wp2_with fail
            go_ret
            exact ⟨rfl, BB21.out⟩
          · go_wp2_with fail
            go_ret
            exact ⟨rfl, BB21.out⟩
        · subst hre hd
          have HZ := Lib.hid hz
          have HA := Lib.hid ha
          have HLL := Lib.hid hl
          clear ha hl
          go_wp2_with fail
          refine (anew_yes _ k rfl _ (by omega) (by omega)).mono ?_
          rintro e w22 ⟨⟨v3, rfl, hk3⟩, hb23⟩
          clear za fa xa0 xa1 xa2 zb fb xb0 xb1 xb2
          have Z := Lib.hid (heap_below Bla.out hb23)
          clear Bla
          have Bla := Z
          clear Z
          have Z := Lib.hid (heap_below Blb.out hb23)
          clear Blb
          have Blb := Z
          clear Z
          have Z := Lib.hid (AlAt.below KV.out hb23)
          clear KV
          have KV := Z
          clear Z
          have Z := Lib.hid (own_below HO.out hb23)
          clear HO
          have HO := Z
          clear Z
          have Z := Lib.hid (AlAt.below KB.out hb23)
          clear KB
          have KB := Z
          clear Z
          have Z := Lib.hid (Row.below HRW.out hb23)
          clear HRW
          have HRW := Z
          clear Z
          have BB24 := Lib.hid (bThen BB21.out hb23)
          clear hb23
          have KC := Lib.hid hk3
          clear hk3
          obtain ⟨E1, e3, E2, e4, rfl⟩ := al_form4 KC.out
          have za := blk_lt Bla.out
          have xa0 := cellsAt Bla.out 0
          have xa1 := cellsAt Bla.out 1
          have xa2 := cellsAt Bla.out 2
          have fa := frozAt Bla.out
          simp at xa0 xa1 xa2
          have zb := blk_lt Blb.out
          have xb0 := cellsAt Blb.out 0
          have xb1 := cellsAt Blb.out 1
          have xb2 := cellsAt Blb.out 2
          have fb := frozAt Blb.out
          simp at xb0 xb1 xb2
          go_wp2_with fail
          obtain ⟨W25, hW26⟩ : ∃ X, X = (w22).alloc (.cells #[.int .i64 (newA' k).n, .slice E1 (newA' k).got.length e3, .slice E2 (newA' k).held.length e4] 26) := ⟨_, rfl⟩
          rw [← hW26]
          have hb27 : Below w22.heap.size w22 W25 := by rw [hW26]; exact bel_alloc (Below.refl _ _) _
          have Ny := Lib.hid (show W25.heap[w22.heap.size]? = some (.cells #[.int .i64 (newA' k).n, .slice E1 (newA' k).got.length e3, .slice E2 (newA' k).held.length e4] 26 (0, 0)) by rw [hW26]; exact heap_at (w22) _ (w22.heap.size) (by simp))
          clear hW26
          have Z := Lib.hid (heap_below Bla.out hb27)
          clear Bla
          have Bla := Z
          clear Z
          have Z := Lib.hid (heap_below Blb.out hb27)
          clear Blb
          have Blb := Z
          clear Z
          have Z := Lib.hid (AlAt.below KV.out hb27)
          clear KV
          have KV := Z
          clear Z
          have Z := Lib.hid (own_below HO.out hb27)
          clear HO
          have HO := Z
          clear Z
          have Z := Lib.hid (AlAt.below KB.out hb27)
          clear KB
          have KB := Z
          clear Z
          have Z := Lib.hid (Row.below HRW.out hb27)
          clear HRW
          have HRW := Z
          clear Z
          have Z := Lib.hid (AlAt.below KC.out hb27)
          clear KC
          have KC := Z
          clear Z
          have BB28 := Lib.hid (bThen BB24.out hb27)
          clear hb27
          have Bly := Ny
          clear Ny
          clear za fa xa0 xa1 xa2 zb fb xb0 xb1 xb2
          have za := blk_lt Bla.out
          have xa0 := cellsAt Bla.out 0
          have xa1 := cellsAt Bla.out 1
          have xa2 := cellsAt Bla.out 2
          have fa := frozAt Bla.out
          simp at xa0 xa1 xa2
          have zb := blk_lt Blb.out
          have xb0 := cellsAt Blb.out 0
          have xb1 := cellsAt Blb.out 1
          have xb2 := cellsAt Blb.out 2
          have fb := frozAt Blb.out
          simp at xb0 xb1 xb2
          have zy := blk_lt Bly.out
          have xy0 := cellsAt Bly.out 0
          have xy1 := cellsAt Bly.out 1
          have xy2 := cellsAt Bly.out 2
          have fy := frozAt Bly.out
          simp at xy0 xy1 xy2
          refine (alike_any a2 (newA' k) (by have := likeA_symm HLK.out; rw [HA.out] at this; exact this) _ _ _ KB.out KC.out).mono ?_
          rintro e w29 ⟨rfl, hb30⟩
          clear za fa xa0 xa1 xa2 zb fb xb0 xb1 xb2 zy fy xy0 xy1 xy2
          have Z := Lib.hid (heap_below Bla.out hb30)
          clear Bla
          have Bla := Z
          clear Z
          have Z := Lib.hid (heap_below Blb.out hb30)
          clear Blb
          have Blb := Z
          clear Z
          have Z := Lib.hid (heap_below Bly.out hb30)
          clear Bly
          have Bly := Z
          clear Z
          have Z := Lib.hid (AlAt.below KV.out hb30)
          clear KV
          have KV := Z
          clear Z
          have Z := Lib.hid (own_below HO.out hb30)
          clear HO
          have HO := Z
          clear Z
          have Z := Lib.hid (AlAt.below KB.out hb30)
          clear KB
          have KB := Z
          clear Z
          have Z := Lib.hid (Row.below HRW.out hb30)
          clear HRW
          have HRW := Z
          clear Z
          have Z := Lib.hid (AlAt.below KC.out hb30)
          clear KC
          have KC := Z
          clear Z
          have BB31 := Lib.hid (bThen BB28.out hb30)
          clear hb30
          have za := blk_lt Bla.out
          have xa0 := cellsAt Bla.out 0
          have xa1 := cellsAt Bla.out 1
          have xa2 := cellsAt Bla.out 2
          have fa := frozAt Bla.out
          simp at xa0 xa1 xa2
          have zb := blk_lt Blb.out
          have xb0 := cellsAt Blb.out 0
          have xb1 := cellsAt Blb.out 1
          have xb2 := cellsAt Blb.out 2
          have fb := frozAt Blb.out
          simp at xb0 xb1 xb2
          have zy := blk_lt Bly.out
          have xy0 := cellsAt Bly.out 0
          have xy1 := cellsAt Bly.out 1
          have xy2 := cellsAt Bly.out 2
          have fy := frozAt Bly.out
          simp at xy0 xy1 xy2
          go_wp2_with fail
          have HW := Row.of_own Lt.cs_len HO.out rfl
          rw [← HLL.out] at HW
          refine (likeLt_any rl _ _ _ HRW.out HW (by rw [HLL.out]; omega)).mono ?_
          rintro e wq ⟨rfl, nq, rfl⟩
          go_wp2_with fail
          go_ret
          exact ⟨rfl, bDrewN BB31.out⟩
      · have t0 : decide (0 < a.n) = false := by simpa using h0
        go_wp2_with fail
        have HOF := offer_any a i HI.out (barI n) (bar_wf HN.out) _ _ KV.out
        have HC := fresh_cases a i n
        obtain ⟨⟨ra, rp, rd, rl, re⟩, hR⟩ : ∃ R, ofer a i (barI n) = R := ⟨_, rfl⟩
        rw [hR] at HOF HC
        clear hR
        unfold itV barI at HOF
        simp only at HC
        rw [HLG.out, HLH.out] at HC
        refine HOF.mono ?_
        rintro e w15 ⟨⟨v2, a2, vl, rfl, ha2, hl2, -, hrow⟩, hb16⟩
        have HC2 := Lib.hid HC
        clear HC
        clear za fa xa0 xa1 xa2
        have Z := Lib.hid (heap_below Bla.out hb16)
        clear Bla
        have Bla := Z
        clear Z
        have Z := Lib.hid (AlAt.below KV.out hb16)
        clear KV
        have KV := Z
        clear Z
        have Z := Lib.hid (own_below HO.out hb16)
        clear HO
        have HO := Z
        clear Z
        have BB17 := Lib.hid (bThen BB14.out hb16)
        clear hb16
        obtain ⟨B1, d3, B2, d4, rfl⟩ := al_form4 ha2
        have KB := Lib.hid ha2
        have HLK := Lib.hid hl2
        have HRW := Lib.hid hrow
        clear ha2 hl2 hrow
        obtain ⟨Al, cl, rfl⟩ := row_form HRW.out
        have za := blk_lt Bla.out
        have xa0 := cellsAt Bla.out 0
        have xa1 := cellsAt Bla.out 1
        have xa2 := cellsAt Bla.out 2
        have fa := frozAt Bla.out
        simp at xa0 xa1 xa2
        go_upto_region 16 with fail
        obtain ⟨W18, hW19⟩ : ∃ X, X = (w15).alloc (.cells #[.int .i64 a2.n, .slice B1 a2.got.length d3, .slice B2 a2.held.length d4] 26) := ⟨_, rfl⟩
        rw [← hW19]
        have hb20 : Below w15.heap.size w15 W18 := by rw [hW19]; exact bel_alloc (Below.refl _ _) _
        have Nb := Lib.hid (show W18.heap[w15.heap.size]? = some (.cells #[.int .i64 a2.n, .slice B1 a2.got.length d3, .slice B2 a2.held.length d4] 26 (0, 0)) by rw [hW19]; exact heap_at (w15) _ (w15.heap.size) (by simp))
        clear hW19
        have Z := Lib.hid (heap_below Bla.out hb20)
        clear Bla
        have Bla := Z
        clear Z
        have Z := Lib.hid (AlAt.below KV.out hb20)
        clear KV
        have KV := Z
        clear Z
        have Z := Lib.hid (own_below HO.out hb20)
        clear HO
        have HO := Z
        clear Z
        have Z := Lib.hid (AlAt.below KB.out hb20)
        clear KB
        have KB := Z
        clear Z
        have Z := Lib.hid (Row.below HRW.out hb20)
        clear HRW
        have HRW := Z
        clear Z
        have BB21 := Lib.hid (bThen BB17.out hb20)
        clear hb20
        have Blb := Nb
        clear Nb
        clear za fa xa0 xa1 xa2
        have za := blk_lt Bla.out
        have xa0 := cellsAt Bla.out 0
        have xa1 := cellsAt Bla.out 1
        have xa2 := cellsAt Bla.out 2
        have fa := frozAt Bla.out
        simp at xa0 xa1 xa2
        have zb := blk_lt Blb.out
        have xb0 := cellsAt Blb.out 0
        have xb1 := cellsAt Blb.out 1
        have xb2 := cellsAt Blb.out 2
        have fb := frozAt Blb.out
        simp at xb0 xb1 xb2
        rcases HC2.out with ⟨hd, hl⟩ | ⟨hre, hd, hz, ha, hl⟩
        · subst hd hl
          simp only [List.length_nil]
          rcases Bool.eq_false_or_eq_true (re != 0) with t9 | t9
          · go_wp2_with fail
            go_ret
            exact ⟨rfl, BB21.out⟩
          · go_wp2_with fail
            go_ret
            exact ⟨rfl, BB21.out⟩
        · subst hre hd
          have HZ := Lib.hid hz
          have HA := Lib.hid ha
          have HLL := Lib.hid hl
          clear ha hl
          go_wp2_with fail
          refine (anew_yes _ k rfl _ (by omega) (by omega)).mono ?_
          rintro e w22 ⟨⟨v3, rfl, hk3⟩, hb23⟩
          clear za fa xa0 xa1 xa2 zb fb xb0 xb1 xb2
          have Z := Lib.hid (heap_below Bla.out hb23)
          clear Bla
          have Bla := Z
          clear Z
          have Z := Lib.hid (heap_below Blb.out hb23)
          clear Blb
          have Blb := Z
          clear Z
          have Z := Lib.hid (AlAt.below KV.out hb23)
          clear KV
          have KV := Z
          clear Z
          have Z := Lib.hid (own_below HO.out hb23)
          clear HO
          have HO := Z
          clear Z
          have Z := Lib.hid (AlAt.below KB.out hb23)
          clear KB
          have KB := Z
          clear Z
          have Z := Lib.hid (Row.below HRW.out hb23)
          clear HRW
          have HRW := Z
          clear Z
          have BB24 := Lib.hid (bThen BB21.out hb23)
          clear hb23
          have KC := Lib.hid hk3
          clear hk3
          obtain ⟨E1, e3, E2, e4, rfl⟩ := al_form4 KC.out
          have za := blk_lt Bla.out
          have xa0 := cellsAt Bla.out 0
          have xa1 := cellsAt Bla.out 1
          have xa2 := cellsAt Bla.out 2
          have fa := frozAt Bla.out
          simp at xa0 xa1 xa2
          have zb := blk_lt Blb.out
          have xb0 := cellsAt Blb.out 0
          have xb1 := cellsAt Blb.out 1
          have xb2 := cellsAt Blb.out 2
          have fb := frozAt Blb.out
          simp at xb0 xb1 xb2
          go_wp2_with fail
          obtain ⟨W25, hW26⟩ : ∃ X, X = (w22).alloc (.cells #[.int .i64 (newA' k).n, .slice E1 (newA' k).got.length e3, .slice E2 (newA' k).held.length e4] 26) := ⟨_, rfl⟩
          rw [← hW26]
          have hb27 : Below w22.heap.size w22 W25 := by rw [hW26]; exact bel_alloc (Below.refl _ _) _
          have Ny := Lib.hid (show W25.heap[w22.heap.size]? = some (.cells #[.int .i64 (newA' k).n, .slice E1 (newA' k).got.length e3, .slice E2 (newA' k).held.length e4] 26 (0, 0)) by rw [hW26]; exact heap_at (w22) _ (w22.heap.size) (by simp))
          clear hW26
          have Z := Lib.hid (heap_below Bla.out hb27)
          clear Bla
          have Bla := Z
          clear Z
          have Z := Lib.hid (heap_below Blb.out hb27)
          clear Blb
          have Blb := Z
          clear Z
          have Z := Lib.hid (AlAt.below KV.out hb27)
          clear KV
          have KV := Z
          clear Z
          have Z := Lib.hid (own_below HO.out hb27)
          clear HO
          have HO := Z
          clear Z
          have Z := Lib.hid (AlAt.below KB.out hb27)
          clear KB
          have KB := Z
          clear Z
          have Z := Lib.hid (Row.below HRW.out hb27)
          clear HRW
          have HRW := Z
          clear Z
          have Z := Lib.hid (AlAt.below KC.out hb27)
          clear KC
          have KC := Z
          clear Z
          have BB28 := Lib.hid (bThen BB24.out hb27)
          clear hb27
          have Bly := Ny
          clear Ny
          clear za fa xa0 xa1 xa2 zb fb xb0 xb1 xb2
          have za := blk_lt Bla.out
          have xa0 := cellsAt Bla.out 0
          have xa1 := cellsAt Bla.out 1
          have xa2 := cellsAt Bla.out 2
          have fa := frozAt Bla.out
          simp at xa0 xa1 xa2
          have zb := blk_lt Blb.out
          have xb0 := cellsAt Blb.out 0
          have xb1 := cellsAt Blb.out 1
          have xb2 := cellsAt Blb.out 2
          have fb := frozAt Blb.out
          simp at xb0 xb1 xb2
          have zy := blk_lt Bly.out
          have xy0 := cellsAt Bly.out 0
          have xy1 := cellsAt Bly.out 1
          have xy2 := cellsAt Bly.out 2
          have fy := frozAt Bly.out
          simp at xy0 xy1 xy2
          refine (alike_any a2 (newA' k) (by have := likeA_symm HLK.out; rw [HA.out] at this; exact this) _ _ _ KB.out KC.out).mono ?_
          rintro e w29 ⟨rfl, hb30⟩
          clear za fa xa0 xa1 xa2 zb fb xb0 xb1 xb2 zy fy xy0 xy1 xy2
          have Z := Lib.hid (heap_below Bla.out hb30)
          clear Bla
          have Bla := Z
          clear Z
          have Z := Lib.hid (heap_below Blb.out hb30)
          clear Blb
          have Blb := Z
          clear Z
          have Z := Lib.hid (heap_below Bly.out hb30)
          clear Bly
          have Bly := Z
          clear Z
          have Z := Lib.hid (AlAt.below KV.out hb30)
          clear KV
          have KV := Z
          clear Z
          have Z := Lib.hid (own_below HO.out hb30)
          clear HO
          have HO := Z
          clear Z
          have Z := Lib.hid (AlAt.below KB.out hb30)
          clear KB
          have KB := Z
          clear Z
          have Z := Lib.hid (Row.below HRW.out hb30)
          clear HRW
          have HRW := Z
          clear Z
          have Z := Lib.hid (AlAt.below KC.out hb30)
          clear KC
          have KC := Z
          clear Z
          have BB31 := Lib.hid (bThen BB28.out hb30)
          clear hb30
          have za := blk_lt Bla.out
          have xa0 := cellsAt Bla.out 0
          have xa1 := cellsAt Bla.out 1
          have xa2 := cellsAt Bla.out 2
          have fa := frozAt Bla.out
          simp at xa0 xa1 xa2
          have zb := blk_lt Blb.out
          have xb0 := cellsAt Blb.out 0
          have xb1 := cellsAt Blb.out 1
          have xb2 := cellsAt Blb.out 2
          have fb := frozAt Blb.out
          simp at xb0 xb1 xb2
          have zy := blk_lt Bly.out
          have xy0 := cellsAt Bly.out 0
          have xy1 := cellsAt Bly.out 1
          have xy2 := cellsAt Bly.out 2
          have fy := frozAt Bly.out
          simp at xy0 xy1 xy2
          go_wp2_with fail
          have HW := Row.of_own Lt.cs_len HO.out rfl
          rw [← HLL.out] at HW
          refine (likeLt_any rl _ _ _ HRW.out HW (by rw [HLL.out]; omega)).mono ?_
          rintro e wq ⟨rfl, nq, rfl⟩
          go_wp2_with fail
          go_ret
          exact ⟨rfl, bDrewN BB31.out⟩
end Go.Proofs.Ytenpgkkefielfaa
