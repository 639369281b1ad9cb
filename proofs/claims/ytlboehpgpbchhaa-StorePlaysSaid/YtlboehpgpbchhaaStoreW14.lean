/-
  WALKS of layer 17: Batch of the reference.
-/
import Derived.Test.YtlboehpgpbchhaaStoreW13
set_option linter.unusedVariables false
set_option linter.unusedSimpArgs false
namespace Go.Proofs.Ytlboehpgpbchhaa
open Go.RowKit

def RmRel (l : List Cl) (W1 : World) (i : Value) (wr : World) : Prop := ∃ k : Nat, k ≤ l.length ∧ i = .int .i64 k ∧ (List.range k).all (fun i => mayC l[i]!) = true ∧ Below W1.heap.size W1 wr
def RbRel (w : World) (l : List Cl) (left : Int) (R : St × Int) (i : Value) (wr : World) : Prop :=
  ∃ (k : Nat) (s : St) (A1 : Option Addr) (n1 c1 : Nat) (A2 : Option Addr) (n2 c2 : Nat), k ≤ l.length ∧ i = .int .i64 k ∧ wr.heap[w.heap.size]? = some (.cells #[.slice A1 n1 c1, .slice A2 n2 c2, .bool s.d] 24 (0, 0)) ∧
    StAt wr (.agg #[.slice A1 n1 c1, .slice A2 n2 c2, .bool s.d]) s ∧ wr.heap[w.heap.size + 1]? = some (.cells #[.slice none 0 0, .slice none 0 0, .bool false] 24 (0, 0)) ∧ Below w.heap.size w wr ∧ goB s (l.drop k) k left = R
theorem commit_err (s : St) : (if (commitS s).2 = 0 then ((commitS s).1, (0 : Int)) else (zS, (commitS s).2)) = commitS s := by
  unfold commitS
  split
  · split
    · simp
    · split <;> simp
  · simp
set_option maxRecDepth 100000 in
set_option maxHeartbeats 4000000 in
theorem rbatch_any (s : St) (l : List Cl) (left : Int) (v u : Value) (w : World) (hs : StAt w v s) (hl : OkRow w u l) :
    Calls Try.prog 18 #[v, u, .int .i64 left] w (StTo (batchS s l left) w) := by
  obtain ⟨lc, lf, d⟩ := s
  obtain ⟨A, c, A', c', rfl, hv, hu⟩ := hs.form
  simp only at hv hu
  have HS := Lib.hid hs
  have HV := Lib.hid hv
  have HU := Lib.hid hu
  have HL := Lib.hid hl
  obtain ⟨⟨A3, c3, rfl, -⟩, -, hnl⟩ := hl
  obtain ⟨R, hR⟩ : ∃ R, batchS ⟨lc, lf, d⟩ l left = R := ⟨_, rfl⟩
  rw [hR]
  have HR := Lib.hid hR
  obtain ⟨q, hq⟩ : ∃ q, rightB lc lf = q := ⟨_, rfl⟩
  have HD := Lib.hid (fun W h1 h2 => rright_any lc lf d (.slice A lc.length c) (.slice A' lf.length c') W h1 h2 q hq)
  have HQ := Lib.hid hq
  obtain ⟨m, hm⟩ : ∃ m, lc.length = m := ⟨_, rfl⟩
  obtain ⟨m2, hm2⟩ : ∃ m, lf.length = m := ⟨_, rfl⟩
  obtain ⟨n, hn⟩ : ∃ m, l.length = m := ⟨_, rfl⟩
  simp only at HS ⊢
  rw [hm, hm2] at HS HD ⊢
  rw [hm] at HV
  rw [hm2] at HU
  rw [hn] at HL hnl ⊢
  have Hn := Lib.hid hn
  clear hm hm2 hn hv hu hR hq hs
  unfold StTo
  go_enter Try.func18, Try.ntmps18
  go_wp2_with fail
  obtain ⟨W1, hW2⟩ : ∃ X, X = ((w).alloc (.cells #[.slice A m c, .slice A' m2 c', .bool d] 24)).alloc (.cells #[.slice none 0 0, .slice none 0 0, .bool false] 24) := ⟨_, rfl⟩
  rw [← hW2]
  have hb3 : Below w.heap.size w W1 := by rw [hW2]; exact bel_alloc (bel_alloc (Below.refl _ _) _) _
  have Ns := Lib.hid (show W1.heap[w.heap.size]? = some (.cells #[.slice A m c, .slice A' m2 c', .bool d] 24 (0, 0)) by rw [hW2]; exact heap_below (heap_at (w) _ (w.heap.size) (by simp)) (bel_alloc (Below.refl _ _) _))
  have Nz := Lib.hid (show W1.heap[w.heap.size + 1]? = some (.cells #[.slice none 0 0, .slice none 0 0, .bool false] 24 (0, 0)) by rw [hW2]; exact heap_at ((w).alloc (.cells #[.slice A m c, .slice A' m2 c', .bool d] 24)) _ (w.heap.size + 1) (by simp))
  clear hW2
  have BB4 := Lib.hid hb3
  clear hb3
  have Bls := Ns
  clear Ns
  have Blz := Nz
  clear Nz
  have R1 := Lib.hid (HV.out.below BB4.out)
  have R2 := Lib.hid (HU.out.below BB4.out)
  have R3 := Lib.hid (HL.out.below BB4.out)
  have Kp := Lib.hid (HS.out.below BB4.out)
  go_wp2_with fail
  go_loopw [16] (fun i wr => RmRel l W1 i wr) (fun i _ => n - (intOf i).toNat)
  case atStart => exact ⟨0, Nat.zero_le _, rfl, rfl, Below.refl _ _⟩
  case round =>
    obtain ⟨j, hj, rfl, hall2, hbj2⟩ := hrel
    rw [Hn.out] at hj
    have BJ2 := Lib.hid hbj2
    have HALL2 := Lib.hid hall2
    clear hall2
    have Z := Lib.hid (heap_below Bls.out hbj2)
    clear Bls
    have Bls := Z
    clear Z
    have Z := Lib.hid (heap_below Blz.out hbj2)
    clear Blz
    have Blz := Z
    clear Z
    have Z := Lib.hid (OkRow.below R1.out hbj2)
    clear R1
    have R1 := Z
    clear Z
    have Z := Lib.hid (OkRow.below R2.out hbj2)
    clear R2
    have R2 := Z
    clear Z
    have Z := Lib.hid (OkRow.below R3.out hbj2)
    clear R3
    have R3 := Z
    clear Z
    have Z := Lib.hid (StAt.below Kp.out hbj2)
    clear Kp
    have Kp := Z
    clear Z
    have BB5 := Lib.hid (bThen BB4.out hbj2)
    clear hbj2
    by_cases hlt2 : j < n
    · obtain ⟨x, hi⟩ : ∃ x, l[j]? = some x := ⟨_, List.getElem?_eq_getElem (by rw [Hn.out]; exact hlt2)⟩
      have hxk : mayC l[j]! = mayC x := by rw [at_get hi]
      have hxo := R3.out.2.1 x (List.mem_of_getElem? hi)
      obtain ⟨b3, o3, c5, e', hc', hb3, hX⟩ := R3.out.1.at_ hi
      injection e' with e1 e2 e3
      clear e2
      subst e1 e3
      have k0 := hX 0 _ rfl
      have k1 := hX 1 _ rfl
      clear hX hi
      simp only [Nat.add_zero] at k0 k1
      obtain ⟨bm, hbm⟩ : ∃ q, mayC x = q := ⟨_, rfl⟩
      have HP := Lib.hid (fun W => rmay_any x W bm hbm hxo)
      rw [hbm] at hxk
      have HXK := Lib.hid hxk
      clear hbm hxo hxk
      obtain ⟨xn, xb⟩ := x
      simp only at k0 k1 HP
      go_wp2_with fail
      refine (HP.out _).mono ?_
      rintro e w9 ⟨rfl, hb9⟩
      have hbx := belA (Below.refl _ _) hb9
      have BX := Lib.hid hbx
      clear k0 k1 hb9
      have Z := Lib.hid (heap_below Bls.out hbx)
      clear Bls
      have Bls := Z
      clear Z
      have Z := Lib.hid (heap_below Blz.out hbx)
      clear Blz
      have Blz := Z
      clear Z
      have Z := Lib.hid (OkRow.below R1.out hbx)
      clear R1
      have R1 := Z
      clear Z
      have Z := Lib.hid (OkRow.below R2.out hbx)
      clear R2
      have R2 := Z
      clear Z
      have Z := Lib.hid (OkRow.below R3.out hbx)
      clear R3
      have R3 := Z
      clear Z
      have Z := Lib.hid (StAt.below Kp.out hbx)
      clear Kp
      have Kp := Z
      clear Z
      have BB6 := Lib.hid (bThen BB5.out hbx)
      clear hbx
      cases bm with
      | false =>
        have HRR := Lib.hid (show R = (zS, 1) by rw [← HR.out]; unfold batchS; simp only; rw [if_neg (by unfold allC; rw [Hn.out, all_range_not (fun i => mayC l[i]!) hlt2 HXK.out]; simp)])
        have zz := blk_lt Blz.out
        have xz0 := cellsAt Blz.out 0
        have xz1 := cellsAt Blz.out 1
        have xz2 := cellsAt Blz.out 2
        have fz := frozAt Blz.out
        simp at xz0 xz1 xz2
        go_wp2_with fail
        exact bodyPost_ret (v := .tuple #[.agg #[.slice none 0 0, .slice none 0 0, .bool false], .int .i64 1]) (by simp [results, Try.results18, go_sem, xz0, xz1, xz2]) rfl ⟨_, by rw [HRR.out], by rw [HRR.out]; exact zS_at _, bel3 BB6.out (by omega) _ _ _⟩
      | true =>
        go_wp2_with fail
        go_roundw
        case rel => exact ⟨j + 1, by rw [Hn.out]; omega, by go_num, by rw [all_range_succ, HALL2.out, HXK.out]; rfl, bThen BJ2.out BX.out⟩
        case measure => simp [intOf]; omega
    · obtain rfl : j = n := by omega
      have HM := Lib.hid (show allC l = true by unfold allC; rw [Hn.out]; exact HALL2.out)
      obtain ⟨w7, rfl⟩ : ∃ X, X = wr := ⟨_, rfl⟩
      have zs := blk_lt Bls.out
      have xs0 := cellsAt Bls.out 0
      have xs1 := cellsAt Bls.out 1
      have xs2 := cellsAt Bls.out 2
      have fs := frozAt Bls.out
      simp at xs0 xs1 xs2
      go_wp2_with fail
      refine (HD.out _ R1.out R2.out).mono ?_
      rintro e w6 ⟨rfl, hb7⟩
      clear zs fs xs0 xs1 xs2
      have Z := Lib.hid (heap_below Bls.out hb7)
      clear Bls
      have Bls := Z
      clear Z
      have Z := Lib.hid (heap_below Blz.out hb7)
      clear Blz
      have Blz := Z
      clear Z
      have Z := Lib.hid (OkRow.below R1.out hb7)
      clear R1
      have R1 := Z
      clear Z
      have Z := Lib.hid (OkRow.below R2.out hb7)
      clear R2
      have R2 := Z
      clear Z
      have Z := Lib.hid (OkRow.below R3.out hb7)
      clear R3
      have R3 := Z
      clear Z
      have Z := Lib.hid (StAt.below Kp.out hb7)
      clear Kp
      have Kp := Z
      clear Z
      have BB8 := Lib.hid (bThen BB5.out hb7)
      clear hb7
      have zs := blk_lt Bls.out
      have xs0 := cellsAt Bls.out 0
      have xs1 := cellsAt Bls.out 1
      have xs2 := cellsAt Bls.out 2
      have fs := frozAt Bls.out
      simp at xs0 xs1 xs2
      have zz := blk_lt Blz.out
      have xz0 := cellsAt Blz.out 0
      have xz1 := cellsAt Blz.out 1
      have xz2 := cellsAt Blz.out 2
      have fz := frozAt Blz.out
      simp at xz0 xz1 xz2
      cases q with
      | false =>
        have HRR := Lib.hid (show R = (zS, 1) by rw [← HR.out]; unfold batchS; simp only; rw [if_neg (by rw [HQ.out]; simp)])
        go_wp2_with fail
        exact bodyPost_ret (v := .tuple #[.agg #[.slice none 0 0, .slice none 0 0, .bool false], .int .i64 1]) (by simp [results, Try.results18, go_sem, xz0, xz1, xz2]) rfl ⟨_, by rw [HRR.out], by rw [HRR.out]; exact zS_at _, bel3 BB8.out (by omega) _ _ _⟩
      | true =>
        have HQM := Lib.hid (show (rightB lc lf && allC l) = true by rw [HQ.out, HM.out]; rfl)
        cases d with
        | true =>
          have HRR := Lib.hid (show R = (zS, 170) by rw [← HR.out]; unfold batchS; simp only; rw [if_pos HQM.out, if_pos trivial])
          go_wp2_with fail
          exact bodyPost_ret (v := .tuple #[.agg #[.slice none 0 0, .slice none 0 0, .bool false], .int .i64 170]) (by simp [results, Try.results18, go_sem, xz0, xz1, xz2]) rfl ⟨_, by rw [HRR.out], by rw [HRR.out]; exact zS_at _, bel3 BB8.out (by omega) _ _ _⟩
        | false =>
          have HR2 := Lib.hid (show goB ⟨lc, lf, false⟩ l 0 left = R by rw [← HR.out]; unfold batchS; simp only; rw [if_pos HQM.out, if_neg (by simp)])
          go_wp2_with fail
          clear zs fs xs0 xs1 xs2 zz fz xz0 xz1 xz2
          have HL2 := HL
          go_loopw [34] (fun i wr => RbRel w l left R i wr) (fun i _ => j - (intOf i).toNat)
          case atStart => exact ⟨0, ⟨lc, lf, false⟩, A, m, c, A', m2, c', Nat.zero_le _, rfl, Bls.out, Kp.out, Blz.out, BB8.out, HR2.out⟩
          case round =>
            clear Bls Blz R1 R2 R3 Kp HR2 BJ2 BB8
            obtain ⟨k, s, A1, n1, c1, A2, n2, c2, hk, rfl, hbs, hst, hbz, hbk, hgo⟩ := hrel
            rw [Hn.out] at hk
            have Bls := Lib.hid hbs
            have Kp := Lib.hid hst
            have Blz := Lib.hid hbz
            have BB0 := Lib.hid hbk
            have R3 := Lib.hid (HL2.out.below hbk)
            have HGO := Lib.hid hgo
            clear hbs hst hbz hbk hgo
            obtain ⟨d, hd⟩ : ∃ d, s.d = d := ⟨_, rfl⟩
            rw [hd] at Bls Kp
            have HDD := Lib.hid hd
            clear hd
            by_cases hlt : k < j
            · obtain ⟨x, hi⟩ : ∃ x, l[k]? = some x := ⟨_, List.getElem?_eq_getElem (by rw [Hn.out]; exact hlt)⟩
              have hdr : l.drop k = x :: l.drop (k + 1) := by obtain ⟨h1, h2⟩ := List.getElem?_eq_some_iff.1 hi; rw [drop_at h1, h2]
              rw [hdr] at HGO
              have hxo := R3.out.2.1 x (List.mem_of_getElem? hi)
              obtain ⟨b3, o3, c5, e', hc', hb3, hX⟩ := R3.out.1.at_ hi
              injection e' with e1 e2 e3
              clear e2
              subst e1 e3
              have k0 := hX 0 _ rfl
              have k1 := hX 1 _ rfl
              clear hX hi hdr
              simp only [Nat.add_zero] at k0 k1
              have HW := Lib.hid (fun W (h : StAt W (.agg #[.slice A1 n1 c1, .slice A2 n2 c2, .bool d]) s) => rwrite_any s x hxo _ W h)
              by_cases hL : (k : Int) = left
              · have tl : ((k : Int) == left) = true := by simpa using hL
                have tl2 : decide ((k : Int) = left) = true := by simpa using hL
                have HRR := Lib.hid (show R = (⟨s.c, s.f, true⟩, 170) by rw [← HGO.out, goB_left hL])
                clear hL
                obtain ⟨xn, xb⟩ := x
                simp only at k0 k1
                go_upto_region 14 with fail
                clear k0 k1
                obtain ⟨W9, hW10⟩ : ∃ X, X = (wr).alloc (.cells #[.string xn, .string xb] 43) := ⟨_, rfl⟩
                rw [← hW10]
                have hb11 : Below wr.heap.size wr W9 := by rw [hW10]; exact bel_alloc (Below.refl _ _) _
                have Nc := Lib.hid (show W9.heap[wr.heap.size]? = some (.cells #[.string xn, .string xb] 43 (0, 0)) by rw [hW10]; exact heap_at (wr) _ (wr.heap.size) (by simp))
                clear hW10
                have Z := Lib.hid (heap_below Bls.out hb11)
                clear Bls
                have Bls := Z
                clear Z
                have Z := Lib.hid (heap_below Blz.out hb11)
                clear Blz
                have Blz := Z
                clear Z
                have Z := Lib.hid (OkRow.below R3.out hb11)
                clear R3
                have R3 := Z
                clear Z
                have Z := Lib.hid (StAt.below Kp.out hb11)
                clear Kp
                have Kp := Z
                clear Z
                have BB12 := Lib.hid (bThen BB0.out hb11)
                clear hb11
                have Blc := Nc
                clear Nc
                have zs := blk_lt Bls.out
                have xs0 := cellsAt Bls.out 0
                have xs1 := cellsAt Bls.out 1
                have xs2 := cellsAt Bls.out 2
                have fs := frozAt Bls.out
                simp at xs0 xs1 xs2
                go_upto_region 16 with fail
                have HG2 := Lib.hid (show (W9.setCell ⟨w.heap.size, 2, none⟩ (.bool true)).heap[w.heap.size]? = some (.cells #[.slice A1 n1 c1, .slice A2 n2 c2, .bool true] 24 (0, 0)) by have h := blk_set Bls.out 2 (.bool true); simpa using h)
                have HS2 := Lib.hid (show StAt (W9.setCell ⟨w.heap.size, 2, none⟩ (.bool true)) (.agg #[.slice A1 n1 c1, .slice A2 n2 c2, .bool true]) ⟨s.c, s.f, true⟩ from ⟨_, _, rfl, Kp.out.rows.1.setG (nostr3 Bls.out) _ _, Kp.out.rows.2.setG (nostr3 Bls.out) _ _⟩)
                have HZ2 := Lib.hid ((Below.heap_setCell W9 ⟨w.heap.size, 2, none⟩ (.bool true) (w.heap.size + 1) (by show w.heap.size + 1 ≠ w.heap.size; omega)).trans Blz.out)
                have HB2 := Lib.hid (BB12.out.setCell (p := ⟨w.heap.size, 2, none⟩) (Nat.le_refl _) (.bool true))
                clear zs fs xs0 xs1 xs2
                generalize W9.setCell ⟨w.heap.size, 2, none⟩ (.bool true) = W7 at *
                have b0 := cellsAt HG2.out 0
                have b1 := cellsAt HG2.out 1
                have b2 := cellsAt HG2.out 2
                simp at b0 b1 b2
                have zb := blk_lt HG2.out
                have xz0 := cellsAt HZ2.out 0
                have xz1 := cellsAt HZ2.out 1
                have xz2 := cellsAt HZ2.out 2
                have fz := frozAt HZ2.out
                have zz := blk_lt HZ2.out
                simp at xz0 xz1 xz2
                go_wp2_with fail
                have Ez := set3 HZ2.out (.slice A1 n1 c1) (.slice A2 n2 c2) (.bool true)
                have e0 := cellsAt Ez 0
                have e1 := cellsAt Ez 1
                have e2 := cellsAt Ez 2
                simp at e0 e1 e2
                exact bodyPost_ret (v := .tuple #[.agg #[.slice A1 n1 c1, .slice A2 n2 c2, .bool true], .int .i64 170]) (by simp [results, Try.results18, go_sem, e0, e1, e2]) rfl ⟨_, by rw [HRR.out], by rw [HRR.out]; exact HS2.out.set3 (nostr3 HZ2.out), bel3 HB2.out (by omega) _ _ _⟩
              · have tl : ((k : Int) == left) = false := by simpa using hL
                have tl2 : decide ((k : Int) = left) = false := by simpa using hL
                have HNX := Lib.hid (show (if (writeS s x).2 = 0 then goB (writeS s x).1 (l.drop (k + 1)) (k + 1) left else (zS, (writeS s x).2)) = R by rw [← HGO.out]; conv => rhs; unfold goB; simp only; rw [if_neg hL])
                obtain ⟨r, hr⟩ : ∃ r, writeS s x = r := ⟨_, rfl⟩
                rw [hr] at HNX HW
                clear hr HGO hL
                obtain ⟨xn, xb⟩ := x
                simp only at k0 k1 HW
                go_upto_region 14 with fail
                clear k0 k1
                obtain ⟨W9, hW10⟩ : ∃ X, X = (wr).alloc (.cells #[.string xn, .string xb] 43) := ⟨_, rfl⟩
                rw [← hW10]
                have hb11 : Below wr.heap.size wr W9 := by rw [hW10]; exact bel_alloc (Below.refl _ _) _
                have Nc := Lib.hid (show W9.heap[wr.heap.size]? = some (.cells #[.string xn, .string xb] 43 (0, 0)) by rw [hW10]; exact heap_at (wr) _ (wr.heap.size) (by simp))
                clear hW10
                have Z := Lib.hid (heap_below Bls.out hb11)
                clear Bls
                have Bls := Z
                clear Z
                have Z := Lib.hid (heap_below Blz.out hb11)
                clear Blz
                have Blz := Z
                clear Z
                have Z := Lib.hid (OkRow.below R3.out hb11)
                clear R3
                have R3 := Z
                clear Z
                have Z := Lib.hid (StAt.below Kp.out hb11)
                clear Kp
                have Kp := Z
                clear Z
                have BB12 := Lib.hid (bThen BB0.out hb11)
                clear hb11
                have Blc := Nc
                clear Nc
                have zs := blk_lt Bls.out
                have xs0 := cellsAt Bls.out 0
                have xs1 := cellsAt Bls.out 1
                have xs2 := cellsAt Bls.out 2
                have fs := frozAt Bls.out
                simp at xs0 xs1 xs2
                have zc := blk_lt Blc.out
                have xc0 := cellsAt Blc.out 0
                have xc1 := cellsAt Blc.out 1
                have fc := frozAt Blc.out
                simp at xc0 xc1
                go_wp2_with fail
                refine (HW.out _ Kp.out).mono ?_
                rintro e w13 ⟨vx, rfl, hkx, hb14⟩
                clear zs fs xs0 xs1 xs2 zc fc xc0 xc1
                have Z := Lib.hid (heap_below Bls.out hb14)
                clear Bls
                have Bls := Z
                clear Z
                have Z := Lib.hid (heap_below Blz.out hb14)
                clear Blz
                have Blz := Z
                clear Z
                have Z := Lib.hid (heap_below Blc.out hb14)
                clear Blc
                have Blc := Z
                clear Z
                have Z := Lib.hid (OkRow.below R3.out hb14)
                clear R3
                have R3 := Z
                clear Z
                have Z := Lib.hid (StAt.below Kp.out hb14)
                clear Kp
                have Kp := Z
                clear Z
                have BB15 := Lib.hid (bThen BB12.out hb14)
                clear hb14
                obtain ⟨rs, re⟩ := r
                simp only at hkx HNX ⊢
                have Kx := Lib.hid hkx
                clear hkx
                obtain ⟨A1x, n1x, c1x, A2x, n2x, c2x, rfl, -, -⟩ := Kx.out.form3
                obtain ⟨dx, hdx⟩ : ∃ d, rs.d = d := ⟨_, rfl⟩
                rw [hdx] at Kx ⊢
                have HDX := Lib.hid hdx
                clear hdx
                go_upto_region 18 with fail
                obtain ⟨W16, hW17⟩ : ∃ X, X = (w13).alloc (.cells #[.slice A1x n1x c1x, .slice A2x n2x c2x, .bool dx] 24) := ⟨_, rfl⟩
                rw [← hW17]
                have hb18 : Below w13.heap.size w13 W16 := by rw [hW17]; exact bel_alloc (Below.refl _ _) _
                have Ne := Lib.hid (show W16.heap[w13.heap.size]? = some (.cells #[.slice A1x n1x c1x, .slice A2x n2x c2x, .bool dx] 24 (0, 0)) by rw [hW17]; exact heap_at (w13) _ (w13.heap.size) (by simp))
                clear hW17
                have Z := Lib.hid (heap_below Bls.out hb18)
                clear Bls
                have Bls := Z
                clear Z
                have Z := Lib.hid (heap_below Blz.out hb18)
                clear Blz
                have Blz := Z
                clear Z
                have Z := Lib.hid (heap_below Blc.out hb18)
                clear Blc
                have Blc := Z
                clear Z
                have Z := Lib.hid (OkRow.below R3.out hb18)
                clear R3
                have R3 := Z
                clear Z
                have Z := Lib.hid (StAt.below Kp.out hb18)
                clear Kp
                have Kp := Z
                clear Z
                have Z := Lib.hid (StAt.below Kx.out hb18)
                clear Kx
                have Kx := Z
                clear Z
                have BB19 := Lib.hid (bThen BB15.out hb18)
                clear hb18
                have Ble := Ne
                clear Ne
                by_cases hre : re = 0
                · subst hre
                  have zs := blk_lt Bls.out
                  have xs0 := cellsAt Bls.out 0
                  have xs1 := cellsAt Bls.out 1
                  have xs2 := cellsAt Bls.out 2
                  have fs := frozAt Bls.out
                  simp at xs0 xs1 xs2
                  have ze := blk_lt Ble.out
                  have xe0 := cellsAt Ble.out 0
                  have xe1 := cellsAt Ble.out 1
                  have xe2 := cellsAt Ble.out 2
                  have fe := frozAt Ble.out
                  simp at xe0 xe1 xe2
                  go_wp2_with fail
                  go_roundw
                  case rel => exact ⟨k + 1, rs, A1x, n1x, c1x, A2x, n2x, c2x, by rw [Hn.out]; omega, by go_num, by rw [HDX.out]; exact set3 Bls.out (.slice A1x n1x c1x) (.slice A2x n2x c2x) (.bool dx), by rw [HDX.out]; exact Kx.out.set3 (nostr3 Bls.out), by rw [Below.heap_setCell _ _ _ _ (by show w.heap.size + 1 ≠ w.heap.size; omega), Below.heap_setCell _ _ _ _ (by show w.heap.size + 1 ≠ w.heap.size; omega), Below.heap_setCell _ _ _ _ (by show w.heap.size + 1 ≠ w.heap.size; omega)]; exact Blz.out, bel3 BB19.out (Nat.le_refl _) _ _ _, by have h := HNX.out; rw [if_pos (by first | rfl | trivial)] at h; exact h⟩
                  case measure => first | (simp [intOf]; done) | (simp [intOf]; omega)
                · have t4 : (re != 0) = true := by simpa using hre
                  have HRR := Lib.hid (show R = (zS, re) by rw [← HNX.out, if_neg (by simpa using hre)])
                  clear hre
                  have zz := blk_lt Blz.out
                  have xz0 := cellsAt Blz.out 0
                  have xz1 := cellsAt Blz.out 1
                  have xz2 := cellsAt Blz.out 2
                  have fz := frozAt Blz.out
                  simp at xz0 xz1 xz2
                  go_wp2_with fail
                  exact bodyPost_ret (v := .tuple #[.agg #[.slice none 0 0, .slice none 0 0, .bool false], .int .i64 re]) (by simp [results, Try.results18, go_sem, xz0, xz1, xz2]) rfl ⟨_, by rw [HRR.out], by rw [HRR.out]; exact zS_at _, bel3 BB19.out (by omega) _ _ _⟩
            · obtain rfl : k = j := by omega
              have hdr : l.drop k = [] := List.drop_eq_nil_of_le (by rw [Hn.out]; exact Nat.le_refl _)
              rw [hdr] at HGO
              clear hdr
              by_cases hL : (k : Int) = left
              · have HRR := Lib.hid (show R = (⟨s.c, s.f, true⟩, 170) by rw [← HGO.out, goB_left hL])
                have tl : (left == (k : Int)) = true := by simp [hL]
                have tl2 : decide (left = (k : Int)) = true := by simp [hL]
                clear hL
                have zs := blk_lt Bls.out
                have xs0 := cellsAt Bls.out 0
                have xs1 := cellsAt Bls.out 1
                have xs2 := cellsAt Bls.out 2
                have fs := frozAt Bls.out
                simp at xs0 xs1 xs2
                go_upto_region 24 with fail
                have HG2 := Lib.hid (show (wr.setCell ⟨w.heap.size, 2, none⟩ (.bool true)).heap[w.heap.size]? = some (.cells #[.slice A1 n1 c1, .slice A2 n2 c2, .bool true] 24 (0, 0)) by have h := blk_set Bls.out 2 (.bool true); simpa using h)
                have HS2 := Lib.hid (show StAt (wr.setCell ⟨w.heap.size, 2, none⟩ (.bool true)) (.agg #[.slice A1 n1 c1, .slice A2 n2 c2, .bool true]) ⟨s.c, s.f, true⟩ from ⟨_, _, rfl, Kp.out.rows.1.setG (nostr3 Bls.out) _ _, Kp.out.rows.2.setG (nostr3 Bls.out) _ _⟩)
                have HZ2 := Lib.hid ((Below.heap_setCell wr ⟨w.heap.size, 2, none⟩ (.bool true) (w.heap.size + 1) (by show w.heap.size + 1 ≠ w.heap.size; omega)).trans Blz.out)
                have HB2 := Lib.hid (BB0.out.setCell (p := ⟨w.heap.size, 2, none⟩) (Nat.le_refl _) (.bool true))
                clear zs fs xs0 xs1 xs2
                generalize wr.setCell ⟨w.heap.size, 2, none⟩ (.bool true) = W7 at *
                have b0 := cellsAt HG2.out 0
                have b1 := cellsAt HG2.out 1
                have b2 := cellsAt HG2.out 2
                simp at b0 b1 b2
                have zb := blk_lt HG2.out
                have xz0 := cellsAt HZ2.out 0
                have xz1 := cellsAt HZ2.out 1
                have xz2 := cellsAt HZ2.out 2
                have fz := frozAt HZ2.out
                have zz := blk_lt HZ2.out
                simp at xz0 xz1 xz2
                go_wp2_with fail
                have Ez := set3 HZ2.out (.slice A1 n1 c1) (.slice A2 n2 c2) (.bool true)
                have e0 := cellsAt Ez 0
                have e1 := cellsAt Ez 1
                have e2 := cellsAt Ez 2
                simp at e0 e1 e2
                exact bodyPost_ret (v := .tuple #[.agg #[.slice A1 n1 c1, .slice A2 n2 c2, .bool true], .int .i64 170]) (by simp [results, Try.results18, go_sem, e0, e1, e2]) rfl ⟨_, by rw [HRR.out], by rw [HRR.out]; exact HS2.out.set3 (nostr3 HZ2.out), bel3 HB2.out (by omega) _ _ _⟩
              · have tl : (left == (k : Int)) = false := by simp; omega
                have tl2 : decide (left = (k : Int)) = false := by simp; omega
                have HRR := Lib.hid (show R = commitS s by rw [← HGO.out]; unfold goB; rw [if_neg hL, commit_err])
                clear hL HGO
                have zs := blk_lt Bls.out
                have xs0 := cellsAt Bls.out 0
                have xs1 := cellsAt Bls.out 1
                have xs2 := cellsAt Bls.out 2
                have fs := frozAt Bls.out
                simp at xs0 xs1 xs2
                go_wp2_with fail
                refine (rcommit_any s _ _ Kp.out).mono ?_
                rintro e w9 ⟨vx, rfl, hkx, hb10⟩
                clear zs fs xs0 xs1 xs2
                have Z := Lib.hid (heap_below Bls.out hb10)
                clear Bls
                have Bls := Z
                clear Z
                have Z := Lib.hid (heap_below Blz.out hb10)
                clear Blz
                have Blz := Z
                clear Z
                have Z := Lib.hid (OkRow.below R3.out hb10)
                clear R3
                have R3 := Z
                clear Z
                have Z := Lib.hid (StAt.below Kp.out hb10)
                clear Kp
                have Kp := Z
                clear Z
                have BB11 := Lib.hid (bThen BB0.out hb10)
                clear hb10
                rw [← HRR.out] at hkx ⊢
                obtain ⟨rs, re⟩ := R
                simp only at hkx ⊢
                have Kx := Lib.hid hkx
                clear hkx
                obtain ⟨A1x, n1x, c1x, A2x, n2x, c2x, rfl, -, -⟩ := Kx.out.form3
                obtain ⟨dx, hdx⟩ : ∃ d, rs.d = d := ⟨_, rfl⟩
                rw [hdx] at Kx ⊢
                clear hdx
                have zz := blk_lt Blz.out
                have xz0 := cellsAt Blz.out 0
                have xz1 := cellsAt Blz.out 1
                have xz2 := cellsAt Blz.out 2
                have fz := frozAt Blz.out
                simp at xz0 xz1 xz2
                go_wp2_with fail
                have Ez := set3 Blz.out (.slice A1x n1x c1x) (.slice A2x n2x c2x) (.bool dx)
                have e0 := cellsAt Ez 0
                have e1 := cellsAt Ez 1
                have e2 := cellsAt Ez 2
                simp at e0 e1 e2
                exact bodyPost_ret (v := .tuple #[.agg #[.slice A1x n1x c1x, .slice A2x n2x c2x, .bool dx], .int .i64 re]) (by simp [results, Try.results18, go_sem, e0, e1, e2]) rfl ⟨_, rfl, Kx.out.set3 (nostr3 Blz.out), bel3 BB11.out (by omega) _ _ _⟩
end Go.Proofs.Ytlboehpgpbchhaa
