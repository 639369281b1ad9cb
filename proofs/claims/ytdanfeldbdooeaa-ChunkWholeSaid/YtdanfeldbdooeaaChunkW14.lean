/-
  WALKS of layer 20: the reference's Right.
-/
import Derived.Test.YtdanfeldbdooeaaChunkW13
set_option linter.unusedVariables false
set_option linter.unusedSimpArgs false
namespace Go.Proofs.Ytdanfeldbdooeaa
open Go.RowKit

def laC (l : List Ck) (k : Nat) : Int := if k = 0 then -1 else l[k - 1]!.no
def RRel (g o : Int) (l : List Ck) (W1 : World) (la i : Value) (wr : World) : Prop := ∃ k : Nat, k ≤ l.length ∧ i = .int .i64 k ∧ la = .int .i64 (laC l k) ∧ (List.range k).all (ckAt g o l) = true ∧ Below W1.heap.size W1 wr
theorem laC_succ {l : List Ck} {k : Nat} {x : Ck} (h : l[k]? = some x) : laC l (k + 1) = x.no := by
  unfold laC
  rw [if_neg (by omega), Nat.add_sub_cancel, ckAt_get h]
theorem laC_lt {l : List Ck} {k : Nat} {x : Ck} (hm : mayB x = true) : (decide (k = 0) || decide (l[k - 1]!.no < x.no)) = !decide (x.no ≤ laC l k) := by
  have h0 : 0 ≤ x.no := by
    unfold mayB at hm
    simp only [Bool.and_eq_true, decide_eq_true_eq] at hm
    exact hm.2.2.2.1
  unfold laC
  by_cases hk : k = 0
  · rw [if_pos hk]
    simp [hk]
    omega
  · rw [if_neg hk, decide_eq_false hk, Bool.false_or, Bool.eq_iff_iff]
    simp
set_option maxRecDepth 100000 in
set_option maxHeartbeats 4000000 in
theorem rright_any (g o : Int) (l : List Ck) (v : Value) (w : World) (hv : Row Ck.cs 4 w v l) (hl : l.length ≤ 1000000) (hok : ∀ x ∈ l, x.Ok) (b : Bool) (hb : rightG g o l = b) :
    Calls Try.prog 39 #[.agg #[.int .i64 g, .int .i64 o, v]] w fun e w' => e = .returned (.bool b) ∧ Below w.heap.size w w' := by
  have HH := Lib.hid hv
  obtain ⟨A, c, rfl, -⟩ := hv
  obtain ⟨m, hm⟩ : ∃ m, l.length = m := ⟨_, rfl⟩
  rw [hm] at HH hl ⊢
  have Hm := Lib.hid hm
  have HOK := Lib.hid hok
  obtain ⟨gb, hgb⟩ : ∃ q, groupB g = q := ⟨_, rfl⟩
  have HT := Lib.hid (fun W => rgroup_any g W gb hgb)
  have HGB := Lib.hid hgb
  have HBB := Lib.hid hb
  clear hm hok hgb hb
  go_enter Try.func39, Try.ntmps39
  go_upto_region 2 with fail
  obtain ⟨W1, hW2⟩ : ∃ X, X = (w).alloc (.cells #[.int .i64 g, .int .i64 o, .slice A m c] 52) := ⟨_, rfl⟩
  rw [← hW2]
  have hb3 : Below w.heap.size w W1 := by rw [hW2]; exact bel_alloc (Below.refl _ _) _
  have Ns := Lib.hid (show W1.heap[w.heap.size]? = some (.cells #[.int .i64 g, .int .i64 o, .slice A m c] 52 (0, 0)) by rw [hW2]; exact heap_at (w) _ (w.heap.size) (by simp))
  clear hW2
  have BB4 := Lib.hid hb3
  clear hb3
  have Bls := Ns
  clear Ns
  have zs := blk_lt Bls.out
  have xs0 := cellsAt Bls.out 0
  have xs1 := cellsAt Bls.out 1
  have xs2 := cellsAt Bls.out 2
  have fs := frozAt Bls.out
  simp at xs0 xs1 xs2
  go_wp2_with fail
  clear zs fs xs0 xs1 xs2
  go_loopw [3, 9] (fun la i wr => RRel g o l W1 la i wr) (fun _ i _ => m - (intOf i).toNat)
  case atStart => exact ⟨0, Nat.zero_le _, rfl, rfl, rfl, Below.refl _ _⟩
  case round =>
    obtain ⟨k, hk, rfl, rfl, hall, hbj⟩ := hrel
    rw [Hm.out] at hk
    have BJ := Lib.hid hbj
    have HALL := Lib.hid hall
    clear hall
    have Z := Lib.hid (heap_below Bls.out hbj)
    clear Bls
    have Bls := Z
    clear Z
    have BB5 := Lib.hid (bThen BB4.out hbj)
    clear hbj
    by_cases hlt : k < m
    · obtain ⟨x, hi⟩ : ∃ x, l[k]? = some x := ⟨_, List.getElem?_eq_getElem (by rw [Hm.out]; exact hlt)⟩
      have HX := Lib.hid hi
      have HLA := Lib.hid (laC_succ hi)
      have hxo := HOK.out x (List.mem_of_getElem? hi)
      obtain ⟨b1, o1, c3, e', hc', hb1, hX⟩ := (HH.out.below BB5.out).at_ hi
      injection e' with e1 e2 e3
      clear e2
      subst e1 e3
      have k0 := hX 0 _ rfl
      have k1 := hX 1 _ rfl
      have k2 := hX 2 _ rfl
      have k3 := hX 3 _ rfl
      clear hX hi
      simp only [Nat.add_zero] at k0 k1 k2 k3
      obtain ⟨bm, hbm⟩ : ∃ q, mayB x = q := ⟨_, rfl⟩
      have HP := Lib.hid (fun W => rmay_any x W bm hbm hxo.1 hxo.2)
      have HBM := Lib.hid hbm
      have HCK := Lib.hid (show ckAt g o l k = (bm && (decide (x.g = g) && (decide (x.of_ = o) && !decide (x.no ≤ laC l k)))) by unfold ckAt; rw [ckAt_get HX.out, hbm]; cases bm with | false => rfl | true => rw [laC_lt hbm])
      clear hbm hxo
      obtain ⟨la, hla⟩ : ∃ q, laC l k = q := ⟨_, rfl⟩
      rw [hla] at HCK ⊢
      clear hla
      obtain ⟨xg, xn, xo, xb⟩ := x
      simp only at k0 k1 k2 k3 HP HCK HLA
      go_upto_region 5 with fail
      clear k0 k1 k2 k3
      obtain ⟨W6, hW7⟩ : ∃ X, X = (wr).alloc (.cells #[.int .i64 xg, .int .i64 xn, .int .i64 xo, .string xb] 56) := ⟨_, rfl⟩
      rw [← hW7]
      have hb8 : Below wr.heap.size wr W6 := by rw [hW7]; exact bel_alloc (Below.refl _ _) _
      have Nc := Lib.hid (show W6.heap[wr.heap.size]? = some (.cells #[.int .i64 xg, .int .i64 xn, .int .i64 xo, .string xb] 56 (0, 0)) by rw [hW7]; exact heap_at (wr) _ (wr.heap.size) (by simp))
      clear hW7
      have HBC0 := hb8
      have Z := Lib.hid (heap_below Bls.out hb8)
      clear Bls
      have Bls := Z
      clear Z
      have BB9 := Lib.hid (bThen BB5.out hb8)
      clear hb8
      have Blc := Nc
      clear Nc
      obtain ⟨ck, hck⟩ : ∃ q, ckAt g o l k = q := ⟨_, rfl⟩
      rw [hck] at HCK
      have HCQ := Lib.hid hck
      clear hck
      have zs := blk_lt Bls.out
      have xs0 := cellsAt Bls.out 0
      have xs1 := cellsAt Bls.out 1
      have xs2 := cellsAt Bls.out 2
      have fs := frozAt Bls.out
      simp at xs0 xs1 xs2
      have zc := blk_lt Blc.out
      have xc0 := cellsAt Blc.out 0
      have xc1 := cellsAt Blc.out 1
      have xc2 := cellsAt Blc.out 2
      have xc3 := cellsAt Blc.out 3
      have fc := frozAt Blc.out
      simp at xc0 xc1 xc2 xc3
      go_wp2_with fail
      refine (HP.out _).mono ?_
      rintro e w10 ⟨rfl, hb11⟩
      have HBCALL := hb11
      clear zs fs xs0 xs1 xs2 zc fc xc0 xc1 xc2 xc3
      have Z := Lib.hid (heap_below Bls.out hb11)
      clear Bls
      have Bls := Z
      clear Z
      have Z := Lib.hid (heap_below Blc.out hb11)
      clear Blc
      have Blc := Z
      clear Z
      have BB12 := Lib.hid (bThen BB9.out hb11)
      clear hb11
      have BQ := Lib.hid (bThen (bThen BJ.out HBC0) HBCALL)
      have zs := blk_lt Bls.out
      have xs0 := cellsAt Bls.out 0
      have xs1 := cellsAt Bls.out 1
      have xs2 := cellsAt Bls.out 2
      have fs := frozAt Bls.out
      simp at xs0 xs1 xs2
      have zc := blk_lt Blc.out
      have xc0 := cellsAt Blc.out 0
      have xc1 := cellsAt Blc.out 1
      have xc2 := cellsAt Blc.out 2
      have xc3 := cellsAt Blc.out 3
      have fc := frozAt Blc.out
      simp at xc0 xc1 xc2 xc3
      cases bm with
      | false =>
        have hck : ck = false := by rw [HCK.out]; rfl
        have hcq := HCQ.out
        rw [hck] at hcq
        have hbb := HBB.out
        unfold rightG cksB at hbb
        rw [Hm.out, all_range_not _ hlt hcq, Bool.and_false] at hbb
        subst hbb
        clear hcq hck HCQ HCK
        go_wp2_with fail
        go_ret
        exact ⟨rfl, BB12.out⟩
      | true =>
        by_cases hg1 : xg = g
        · have tg : (xg == g) = true := by simpa using hg1
          have tg2 : decide (xg = g) = true := by simpa using hg1
          have tg3 : (xg != g) = false := by simpa using hg1
          by_cases ho1 : xo = o
          · have tq : (xo == o) = true := by simpa using ho1
            have tq2 : decide (xo = o) = true := by simpa using ho1
            have tq3 : (xo != o) = false := by simpa using ho1
            by_cases hno : xn ≤ la
            · have tn : decide (xn ≤ la) = true := by simpa using hno
              have hck : ck = false := by rw [HCK.out, tg2, tq2, tn]; rfl
              clear hg1 ho1 hno
              have hcq := HCQ.out
              rw [hck] at hcq
              have hbb := HBB.out
              unfold rightG cksB at hbb
              rw [Hm.out, all_range_not _ hlt hcq, Bool.and_false] at hbb
              subst hbb
              clear hcq hck HCQ HCK
              go_wp2_with fail
              go_ret
              exact ⟨rfl, BB12.out⟩
            · have tn : decide (xn ≤ la) = false := by simpa using hno
              have hck : ck = true := by rw [HCK.out, tg2, tq2, tn]; rfl
              clear hg1 ho1 hno
              have hcq := HCQ.out
              rw [hck] at hcq
              have HC2 := Lib.hid hcq
              clear hcq hck HCQ HCK
              go_wp2_with fail
              go_roundw
              case rel => exact ⟨k + 1, by rw [Hm.out]; omega, by go_num, by rw [HLA.out], by rw [all_range_succ, HALL.out, HC2.out]; rfl, BQ.out⟩
              case measure => simp [intOf]; omega
          · have tq : (xo == o) = false := by simpa using ho1
            have tq2 : decide (xo = o) = false := by simpa using ho1
            have tq3 : (xo != o) = true := by simpa using ho1
            have hck : ck = false := by rw [HCK.out, tg2, tq2]; rfl
            clear hg1
            have hcq := HCQ.out
            rw [hck] at hcq
            have hbb := HBB.out
            unfold rightG cksB at hbb
            rw [Hm.out, all_range_not _ hlt hcq, Bool.and_false] at hbb
            subst hbb
            clear hcq hck HCQ HCK
            go_wp2_with fail
            go_ret
            exact ⟨rfl, BB12.out⟩
        · have tg : (xg == g) = false := by simpa using hg1
          have tg2 : decide (xg = g) = false := by simpa using hg1
          have tg3 : (xg != g) = true := by simpa using hg1
          have hck : ck = false := by rw [HCK.out, tg2]; rfl
          have hcq := HCQ.out
          rw [hck] at hcq
          have hbb := HBB.out
          unfold rightG cksB at hbb
          rw [Hm.out, all_range_not _ hlt hcq, Bool.and_false] at hbb
          subst hbb
          clear hcq hck HCQ HCK
          go_wp2_with fail
          go_ret
          exact ⟨rfl, BB12.out⟩
    · obtain rfl : k = m := by omega
      have hbb := HBB.out
      unfold rightG cksB at hbb
      rw [Hm.out, HALL.out, Bool.and_true, HGB.out] at hbb
      have zs := blk_lt Bls.out
      have xs0 := cellsAt Bls.out 0
      have xs1 := cellsAt Bls.out 1
      have xs2 := cellsAt Bls.out 2
      have fs := frozAt Bls.out
      simp at xs0 xs1 xs2
      go_wp2_with fail
      refine (HT.out _).mono ?_
      rintro e w8 ⟨rfl, rfl⟩
      cases gb with
      | false =>
        rw [Bool.false_and] at hbb
        subst hbb
        go_wp2_with fail
        go_ret
        exact ⟨rfl, BB5.out⟩
      | true =>
        by_cases h0 : 0 ≤ o
        · have t0 : decide (0 ≤ o) = true := by simpa using h0
          by_cases h5 : o ≤ 512
          · have t5 : decide (o ≤ 512) = true := by simpa using h5
            rw [t0, t5] at hbb
            subst hbb
            go_wp2_with fail
            go_ret
            exact ⟨rfl, BB5.out⟩
          · have t5 : decide (o ≤ 512) = false := by simpa using h5
            rw [t0, t5] at hbb
            subst hbb
            go_wp2_with fail
            go_ret
            exact ⟨rfl, BB5.out⟩
        · have t0 : decide (0 ≤ o) = false := by simpa using h0
          rw [t0, Bool.false_and, Bool.and_false] at hbb
          subst hbb
          go_wp2_with fail
          go_ret
          exact ⟨rfl, BB5.out⟩
end Go.Proofs.Ytdanfeldbdooeaa
