/-
  WALKS of layer 18: the reference's 'behind'.
-/
import Derived.Test.YtenpgkkefielfaaAlignW25
import Derived.Deep.DeepCutAuto
set_option linter.unusedVariables false
set_option linter.unusedSimpArgs false
namespace Go.Proofs.Ytenpgkkefielfaa
open Go.RowKit

def BeRel (a : Aln) (N : Nat) (it : It) (w : World) (bA bI : Array Value) (i : Value) (wr : World) : Prop :=
  ∃ (k : Nat) (hs : List Hl) (u1 u2 : Value), k ≤ a.got.length ∧ i = .int .i64 k ∧ BeAt w wr bA bI (beN a N it k) u1 (beG a N k) u2 hs ∧ HsOk a N it k hs
def BiRel (l : List It) (w0 : World) (u i : Value) (wr : World) : Prop := ∃ j : Nat, j ≤ l.length ∧ i = .int .i64 j ∧ wr.ownsRow w0.heap.size 43 11 u j ((l.take j).flatMap It.cs) ∧ Below w0.heap.size w0 wr
def BhTo (a : Aln) (N : Nat) (it : It) (w : World) (e : Ending) (w' : World) : Prop := (∃ v' a', e = .returned v' ∧ (∀ W' : World, (∀ b, w.heap.size ≤ b → b < w'.heap.size → W'.heap[b]? = w'.heap[b]?) → AlAt W' v' a') ∧ likeA (beA a N it) a') ∧ Below w.heap.size w w'
set_option maxRecDepth 100000 in
set_option maxHeartbeats 8000000 in
theorem behind_any (a : Aln) (N : Nat) (it : It) (hwf : it.Wf) (v : Value) (w : World) (hv : AlAt w v a) (hr : rightA a = true) (hNlt : N < a.got.length) :
    Calls Try.prog 53 #[v, .int .i64 (N : Int), itV it] w (BhTo a N it w) := by
  have HV := Lib.hid hv
  have HWF := Lib.hid hwf
  have hP := right_parts hr
  have hl8 := hP.2.1
  have hlgh := hP.1
  have HHL := Lib.hid hP.2.2
  obtain ⟨Ag, cg, Ah, ch, rfl, -, -, -, hwn, -, -⟩ := al_form hv
  have HWN := Lib.hid hwn
  rw [hlgh] at HV ⊢
  obtain ⟨lg, hlg'⟩ : ∃ n, a.got.length = n := ⟨_, rfl⟩
  have HLG := Lib.hid hlg'
  have HLH := Lib.hid (hlgh.trans hlg')
  rw [hlg'] at HV hl8 hNlt ⊢
  clear hv hlg' hlgh hP hr hwf hwn
  obtain ⟨b1, o1, rfl⟩ := held_some HV.out (by rw [HLH.out]; omega)
  obtain ⟨b0, o0, rfl⟩ := got_some HV.out (by rw [HLG.out]; omega)
  obtain ⟨j0, j1, j2, j3, j4, j5, j6, j7, j8, j9, j10⟩ := it
  unfold itV
  obtain ⟨iI, hi, hi0, hi1, hi2⟩ := info_parts info_bl
  have HI := Lib.hid hi
  have HI0 := Lib.hid hi0
  have HI1 := Lib.hid hi1
  have HI2 := Lib.hid hi2
  clear hi hi0 hi1 hi2
  obtain ⟨iJ, hi, hi0, hi1, hi2⟩ := info_parts info_li
  have HJ := Lib.hid hi
  have HJ0 := Lib.hid hi0
  have HJ1 := Lib.hid hi1
  have HJ2 := Lib.hid hi2
  clear hi hi0 hi1 hi2
  obtain ⟨iT, hi, hi0, hi1, hi2⟩ := info_parts info_it
  have HT := Lib.hid hi
  have HT0 := Lib.hid hi0
  have HT1 := Lib.hid hi1
  have HT2 := Lib.hid hi2
  clear hi hi0 hi1 hi2
  go_enter Try.func53, Try.ntmps53
  go_wp2_with fail
  obtain ⟨W1, hW2⟩ : ∃ X, X = ((((w).alloc (.cells #[.int .i64 a.n, .slice (some ⟨b0, o0, none⟩) lg cg, .slice (some ⟨b1, o1, none⟩) lg ch] 26)).alloc (.cells #[.int .i64 j0, .string j1, .int .i64 j2, .int .i64 j3, .int .i64 j4, .int .i64 j5, .int .i64 j6, .int .i64 j7, .string j8, .int .i64 j9, .int .i64 j10] 43)).alloc (.cells #[.int .i64 0, .slice none 0 0, .slice none 0 0] 26)).alloc (.cells #[.int .i64 a.n, .slice none 0 0, .slice none 0 0] 26) := ⟨_, rfl⟩
  rw [← hW2]
  have hb3 : Below w.heap.size w W1 := by rw [hW2]; exact bel_alloc (bel_alloc (bel_alloc (bel_alloc (Below.refl _ _) _) _) _) _
  have Na := Lib.hid (show W1.heap[w.heap.size]? = some (.cells #[.int .i64 a.n, .slice (some ⟨b0, o0, none⟩) lg cg, .slice (some ⟨b1, o1, none⟩) lg ch] 26 (0, 0)) by rw [hW2]; exact heap_below (heap_at (w) _ (w.heap.size) (by simp)) (bel_alloc (bel_alloc (bel_alloc (Below.refl _ _) _) _) _))
  have Ni := Lib.hid (show W1.heap[w.heap.size + 1]? = some (.cells #[.int .i64 j0, .string j1, .int .i64 j2, .int .i64 j3, .int .i64 j4, .int .i64 j5, .int .i64 j6, .int .i64 j7, .string j8, .int .i64 j9, .int .i64 j10] 43 (0, 0)) by rw [hW2]; exact heap_below (heap_at ((w).alloc (.cells #[.int .i64 a.n, .slice (some ⟨b0, o0, none⟩) lg cg, .slice (some ⟨b1, o1, none⟩) lg ch] 26)) _ (w.heap.size + 1) (by simp)) (bel_alloc (bel_alloc (Below.refl _ _) _) _))
  have Nz := Lib.hid (show W1.heap[w.heap.size + 1 + 1]? = some (.cells #[.int .i64 0, .slice none 0 0, .slice none 0 0] 26 (0, 0)) by rw [hW2]; exact heap_below (heap_at (((w).alloc (.cells #[.int .i64 a.n, .slice (some ⟨b0, o0, none⟩) lg cg, .slice (some ⟨b1, o1, none⟩) lg ch] 26)).alloc (.cells #[.int .i64 j0, .string j1, .int .i64 j2, .int .i64 j3, .int .i64 j4, .int .i64 j5, .int .i64 j6, .int .i64 j7, .string j8, .int .i64 j9, .int .i64 j10] 43)) _ (w.heap.size + 1 + 1) (by simp)) (bel_alloc (Below.refl _ _) _))
  have No := Lib.hid (show W1.heap[w.heap.size + 1 + 1 + 1]? = some (.cells #[.int .i64 a.n, .slice none 0 0, .slice none 0 0] 26 (0, 0)) by rw [hW2]; exact heap_at ((((w).alloc (.cells #[.int .i64 a.n, .slice (some ⟨b0, o0, none⟩) lg cg, .slice (some ⟨b1, o1, none⟩) lg ch] 26)).alloc (.cells #[.int .i64 j0, .string j1, .int .i64 j2, .int .i64 j3, .int .i64 j4, .int .i64 j5, .int .i64 j6, .int .i64 j7, .string j8, .int .i64 j9, .int .i64 j10] 43)).alloc (.cells #[.int .i64 0, .slice none 0 0, .slice none 0 0] 26)) _ (w.heap.size + 1 + 1 + 1) (by simp))
  clear hW2
  have BB4 := Lib.hid hb3
  clear hb3
  have Bla := Na
  clear Na
  have Bli := Ni
  clear Ni
  have Blz := Nz
  clear Nz
  have Blo := No
  clear No
  have BE := Lib.hid (show BeAt w W1 #[.int .i64 a.n, .slice (some ⟨b0, o0, none⟩) lg cg, .slice (some ⟨b1, o1, none⟩) lg ch] #[.int .i64 j0, .string j1, .int .i64 j2, .int .i64 j3, .int .i64 j4, .int .i64 j5, .int .i64 j6, .int .i64 j7, .string j8, .int .i64 j9, .int .i64 j10] (beN a N ⟨j0, j1, j2, j3, j4, j5, j6, j7, j8, j9, j10⟩ 0) (.slice none 0 0) (beG a N 0) (.slice none 0 0) [] from ⟨Bla.out, Bli.out, Blz.out, by have := Blo.out; rw [show beN a N ⟨j0, j1, j2, j3, j4, j5, j6, j7, j8, j9, j10⟩ 0 = a.n from if_neg (by simp)]; exact this, by simpa [beG] using World.ownsRow_nil _ _ _ _, World.ownsRow_nil _ _ _ _, by simp, BB4.out⟩)
  clear Bla Bli Blz Blo BB4
  go_loopw [19] (fun i wr => BeRel a N ⟨j0, j1, j2, j3, j4, j5, j6, j7, j8, j9, j10⟩ w #[.int .i64 a.n, .slice (some ⟨b0, o0, none⟩) lg cg, .slice (some ⟨b1, o1, none⟩) lg ch] #[.int .i64 j0, .string j1, .int .i64 j2, .int .i64 j3, .int .i64 j4, .int .i64 j5, .int .i64 j6, .int .i64 j7, .string j8, .int .i64 j9, .int .i64 j10] i wr) (fun i _ => lg - (intOf i).toNat)
  case atStart => exact ⟨0, [], _, _, Nat.zero_le _, rfl, BE.out, rfl, fun j x h => by simp at h⟩
  case round =>
    clear BE
    obtain ⟨k, hs, u1, u2, hk, rfl, hbe, hhs⟩ := hrel
    rw [HLG.out] at hk
    have HBE := Lib.hid hbe
    have HHS := Lib.hid hhs
    clear hbe hhs
    have HGL := Lib.hid (beG_len a N k (by rw [HLG.out]; exact hk))
    obtain ⟨A1, c1, rfl⟩ : ∃ A c, u1 = .slice A k c := by have O1 := HBE.out.g; rw [HGL.out] at O1; exact own_slice O1
    obtain ⟨A2, c2, rfl⟩ : ∃ A c, u2 = .slice A k c := by have O1 := HBE.out.h; rw [HHS.out.1] at O1; exact own_slice O1
    by_cases hlt : k < lg
    · obtain ⟨x, hx⟩ : ∃ x, a.got[k]? = some x := ⟨_, List.getElem?_eq_getElem (by rw [HLG.out]; exact hlt)⟩
      obtain ⟨y, hy⟩ : ∃ y, a.held[k]? = some y := ⟨_, List.getElem?_eq_getElem (by rw [HLH.out]; exact hlt)⟩
      obtain ⟨hbh, ch0, hya⟩ := held_at (HV.out.below HBE.out.bel) hy
      obtain ⟨hbg, cg0⟩ := got_at (HV.out.below HBE.out.bel) hx
      have hyl := HHL.out k y hy
      have HX := Lib.hid hx
      have HY := Lib.hid hy
      have RY := Lib.hid hya
      obtain ⟨⟨Ay, cy, hye, -, -⟩, -, -⟩ := hya
      clear hx hy
      obtain ⟨yr, yl⟩ := y
      simp only at hye hyl
      subst hye
      simp only at ch0
      have hk0 : (0 : Int) ≤ (k : Int) := by omega
      have hk1 : (k : Int) < (lg : Int) := by omega
      obtain ⟨wk, rfl⟩ : ∃ X, X = wr := ⟨_, rfl⟩
      have HWR := Lib.hid (show w.heap.size + 4 ≤ wk.heap.size by have := blk_lt HBE.out.o0; omega)
      have xa2 := cellsAt HBE.out.a0 2
      have fa := frozAt HBE.out.a0
      have za := blk_lt HBE.out.a0
      simp at xa2
      go_wp2_with fail
      clear xa2 fa za hbh ch0 hbg cg0
      go_loopw [10, 31] (fun u j wr2 => BiRel yl wk u j wr2) (fun _ j _ => yl.length - (intOf j).toNat)
      case atStart => exact ⟨0, Nat.zero_le _, rfl, by simpa using own_empty wk wk.heap.size 43 11 (Nat.le_refl _), bel_alloc (Below.refl _ _) _⟩
      case round =>
        obtain ⟨j, hj, rfl, hown, hbel⟩ := hrel
        have HO2 := Lib.hid hown
        have HBE2 := Lib.hid (HBE.out.below hbel)
        have HB2 := Lib.hid hbel
        clear hbel hown
        by_cases hlt2 : j < yl.length
        · obtain ⟨z, hz⟩ : ∃ z, yl[j]? = some z := ⟨_, List.getElem?_eq_getElem hlt2⟩
          have RY2 := held_of (HV.out.below HBE2.out.bel) HY.out
          obtain ⟨b', o', c', e', hc', hb', hX⟩ := RY2.1.at_ hz
          simp only at e'
          injection e' with e1 _ e3
          subst e1 e3
          have c0 := hX 0 _ rfl
          have c1 := hX 1 _ rfl
          have c2 := hX 2 _ rfl
          have c3 := hX 3 _ rfl
          have c4 := hX 4 _ rfl
          have c5 := hX 5 _ rfl
          have c6 := hX 6 _ rfl
          have c7 := hX 7 _ rfl
          have c8 := hX 8 _ rfl
          have c9 := hX 9 _ rfl
          have c10 := hX 10 _ rfl
          have HIz := Lib.hid hz
          clear hX hz RY2
          obtain ⟨y0, y1, y2, y3, y4, y5, y6, y7, y8, y9, y10⟩ := z
          simp only [Nat.add_zero] at c0 c1 c2 c3 c4 c5 c6 c7 c8 c9 c10
          go_upto_region 9 with fail
          obtain ⟨W4, hW4⟩ : ∃ W4, W4 = wr.alloc (.cells #[.int .i64 y0, .string y1, .int .i64 y2, .int .i64 y3, .int .i64 y4, .int .i64 y5, .int .i64 y6, .int .i64 y7, .string y8, .int .i64 y9, .int .i64 y10] 43) := ⟨_, rfl⟩
          rw [← hW4]
          have X4 := Lib.hid (show W4.heap[wr.heap.size]? = some (.cells #[.int .i64 y0, .string y1, .int .i64 y2, .int .i64 y3, .int .i64 y4, .int .i64 y5, .int .i64 y6, .int .i64 y7, .string y8, .int .i64 y9, .int .i64 y10] 43 (0, 0)) by rw [hW4]; exact heap_at _ _ _ rfl)
          have O4 := Lib.hid (show W4.ownsRow wk.heap.size 43 11 u10 j ((yl.take j).flatMap It.cs) by rw [hW4]; exact HO2.out.alloc _)
          have B4 := Lib.hid (show Below wk.heap.size wk W4 by rw [hW4]; exact bel_alloc HB2.out _)
          clear hW4 c0 c1 c2 c3 c4 c5 c6 c7 c8 c9 c10
          clear HB2 HO2
          obtain ⟨Au, cu, rfl⟩ := own_slice O4.out
          have xz := blk_lt X4.out
          have q0 := cellsAt X4.out 0
          have q1 := cellsAt X4.out 1
          have q2 := cellsAt X4.out 2
          have q3 := cellsAt X4.out 3
          have q4 := cellsAt X4.out 4
          have q5 := cellsAt X4.out 5
          have q6 := cellsAt X4.out 6
          have q7 := cellsAt X4.out 7
          have q8 := cellsAt X4.out 8
          have q9 := cellsAt X4.out 9
          have q10 := cellsAt X4.out 10
          simp at q0 q1 q2 q3 q4 q5 q6 q7 q8 q9 q10
          go_wp2_with (at_builtin; refine wpList_push _ rfl _ _ 32 rfl wk.heap.size 43 iT (itV itZ) 11 104 Try.underlying32 HT.out HT0.out HT1.out HT2.out rfl (by decide) _ _ _ rfl O4.out #[.int .i64 y0, .string y1, .int .i64 y2, .int .i64 y3, .int .i64 y4, .int .i64 y5, .int .i64 y6, .int .i64 y7, .string y8, .int .i64 y9, .int .i64 y10] 43 rfl rfl (by intro u hu; simp at hu; rcases hu with rfl | rfl | rfl | rfl | rfl | rfl | rfl | rfl | rfl | rfl | rfl <;> rfl) (by unfold maxLen; omega) (by omega) B4.out.size ?_)
          intro v5 W5 hown5 hb5 _
          have O5 := Lib.hid hown5
          have B5 := Lib.hid (B4.out.trans hb5)
          clear hown5 hb5 X4 xz q0 q1 q2 q3 q4 q5 q6 q7 q8 q9 q10
          go_wp2_with fail
          go_roundw
          case rel =>
            refine ⟨j + 1, by omega, by go_num, ?_, B5.out⟩
            rw [List.take_add_one, HIz.out, List.flatMap_append]
            exact O5.out
          case measure => simp [intOf]; omega
        · obtain rfl : j = yl.length := by omega
          have O2 := HO2.out
          rw [List.take_length] at O2
          have HO3 := Lib.hid O2
          clear HO2 O2
          obtain ⟨Al, cl, rfl⟩ := own_slice HO3.out
          have hw4 : w.heap.size + 4 ≤ wk.heap.size := HWR.out
          by_cases hkN : k = N
          · subst hkN
            have hgb : a.got[k]! = x := get_bangB HX.out
            have HGB := Lib.hid hgb
            clear hgb
            have tN1 : ((k : Int) == (k : Int)) = true := by simp
            have tN2 : decide ((k : Int) = (k : Int)) = true := by simp
            have HGX := Lib.hid (show (a.got.set k true)[k]? = some true from List.getElem?_set_self (by rw [HLG.out]; exact hlt))
            cases x with
            | true =>
              have xi := blk_lt HBE2.out.i0
              have q0 := cellsAt HBE2.out.i0 0
              have q1 := cellsAt HBE2.out.i0 1
              have q2 := cellsAt HBE2.out.i0 2
              have q3 := cellsAt HBE2.out.i0 3
              have q4 := cellsAt HBE2.out.i0 4
              have q5 := cellsAt HBE2.out.i0 5
              have q6 := cellsAt HBE2.out.i0 6
              have q7 := cellsAt HBE2.out.i0 7
              have q8 := cellsAt HBE2.out.i0 8
              have q9 := cellsAt HBE2.out.i0 9
              have q10 := cellsAt HBE2.out.i0 10
              simp at q0 q1 q2 q3 q4 q5 q6 q7 q8 q9 q10
              have hws : wk.heap.size ≤ wr.heap.size := HB2.out.size
              go_wp2_with (at_builtin; refine wpList_push _ rfl _ _ 32 rfl wk.heap.size 43 iT (itV itZ) 11 104 Try.underlying32 HT.out HT0.out HT1.out HT2.out rfl (by decide) _ _ _ rfl HO3.out #[.int .i64 j0, .string j1, .int .i64 j2, .int .i64 j3, .int .i64 j4, .int .i64 j5, .int .i64 j6, .int .i64 j7, .string j8, .int .i64 j9, .int .i64 j10] 43 rfl rfl (by intro u hu; simp at hu; rcases hu with rfl | rfl | rfl | rfl | rfl | rfl | rfl | rfl | rfl | rfl | rfl <;> rfl) (by unfold maxLen; omega) (by omega) hws ?_)
              intro v5 W5 hown5 hb5 _
              have OL := Lib.hid (own_base hown5 hw4)
              have BE6 := Lib.hid (HBE.out.below (HB2.out.trans hb5))
              obtain ⟨Am, cm, rfl⟩ := own_slice hown5
              clear hown5 hb5 HBE2 HB2 HO3 xi q0 q1 q2 q3 q4 q5 q6 q7 q8 q9 q10
              have HLR := Lib.hid (show beL a k ⟨j0, j1, j2, j3, j4, j5, j6, j7, j8, j9, j10⟩ k = yl ++ [⟨j0, j1, j2, j3, j4, j5, j6, j7, j8, j9, j10⟩] by unfold beL; rw [if_pos ⟨rfl, HGB.out⟩, get_bangB HY.out])
              have OL2 := Lib.hid (show W5.ownsRow (w.heap.size + 4) 43 11 (.slice Am (yl.length + 1) cm) (beL a k ⟨j0, j1, j2, j3, j4, j5, j6, j7, j8, j9, j10⟩ k).length ((beL a k ⟨j0, j1, j2, j3, j4, j5, j6, j7, j8, j9, j10⟩ k).flatMap It.cs) by rw [HLR.out, List.length_append, List.flatMap_append]; exact OL.out)
              clear OL
              have xo1 := cellsAt BE6.out.o0 1
              have fo := frozAt BE6.out.o0
              have zo := blk_lt BE6.out.o0
              have hsz : w.heap.size + 4 ≤ W5.heap.size := by omega
              simp at xo1
              have O1 := BE6.out.g
              rw [HGL.out] at O1
              go_wp2_with (at_builtin; refine wpList_push _ rfl _ _ 24 rfl (w.heap.size + 4) 4 iI (.bool false) 1 1 Try.underlying24 HI.out HI0.out HI1.out HI2.out rfl (by decide) _ _ _ rfl O1 _ _ rfl rfl (by intro u hu; simp at hu; subst hu; rfl) (by unfold maxLen; omega) (by omega) (by omega) ?_)
              intro v5 W5 hown5 BG hblk
              obtain ⟨A5, c5, rfl⟩ := own_slice hown5
              have BE5 := Lib.hid (BE6.out.push1 (b := true) (v := .slice A5 (k + 1) c5) (by rw [HGL.out]; exact hown5) BG hblk)
              have OL5 := Lib.hid (BE6.out.push1k (v := .slice A5 (k + 1) c5) BG hblk OL2.out)
              have zo5 : w.heap.size + 3 < W5.heap.size := Nat.lt_of_lt_of_le zo BG.size
              have xo1 := (BG.cell (p := ⟨w.heap.size + 3, 1, none⟩) (by simp)).trans xo1
              have fo := (BG.frozen (p := ⟨w.heap.size + 3, 1, none⟩) (by simp)).trans (fo 1)
              clear hown5 BG hblk O1
              go_upto_region 17 with fail
              clear xo1 fo zo zo5 hsz BE6 OL2
              generalize W5.setCell ⟨w.heap.size + 3, 1, none⟩ (.slice A5 (k + 1) c5) = W6 at *
              have xo2 := cellsAt BE5.out.o0 2
              have fo := frozAt BE5.out.o0
              have zo := blk_lt BE5.out.o0
              simp at xo2
              have O2 := BE5.out.h
              rw [HHS.out.1] at O2
              go_wp2_with (at_builtin; refine wpList_push _ rfl _ _ 22 rfl (w.heap.size + 4) 32 iJ (.slice none 0 0) 1 24 Try.underlying22 HJ.out HJ0.out HJ1.out HJ2.out rfl (by decide) _ _ _ rfl O2 _ _ rfl rfl (by intro u hu; simp at hu; subst hu; rfl) (by unfold maxLen; omega) (by omega) (by omega) ?_)
              intro v7 W7 hown7 BG hblk
              obtain ⟨A7, c7, rfl⟩ := own_slice hown7
              have BE7 := Lib.hid (BE5.out.push2 (y := ⟨_, beL a k ⟨j0, j1, j2, j3, j4, j5, j6, j7, j8, j9, j10⟩ k⟩) (v := .slice A7 (k + 1) c7) OL5.out (by rw [HHS.out.1]; exact hown7) BG hblk)
              have xo2 := (BG.cell (p := ⟨w.heap.size + 3, 2, none⟩) (by simp)).trans xo2
              have fo := (BG.frozen (p := ⟨w.heap.size + 3, 2, none⟩) (by simp)).trans (fo 2)
              have zo7 : w.heap.size + 3 < W7.heap.size := Nat.lt_of_lt_of_le zo BG.size
              clear hown7 BG hblk O2 BE5 OL5 zo
              go_wp2_with fail
              go_roundw
              case rel =>
                have HB := BE7.out
                rw [← beG_succ a k k HGX.out] at HB
                rw [← beN_succ a k ⟨j0, j1, j2, j3, j4, j5, j6, j7, j8, j9, j10⟩ k (.inr HGB.out)] at HB
                exact ⟨k + 1, _, _, _, by rw [HLG.out]; omega, by go_num, HB, HHS.out.push ⟨_, beL a k ⟨j0, j1, j2, j3, j4, j5, j6, j7, j8, j9, j10⟩ k⟩ rfl⟩
              case measure => simp [intOf]; omega
            | false =>
              have xi3 := cellsAt HBE2.out.i0 5
              have fi := frozAt HBE2.out.i0
              have zi := blk_lt HBE2.out.i0
              simp at xi3
              have xo0 := cellsAt HBE2.out.o0 0
              have fo := frozAt HBE2.out.o0
              have zo := blk_lt HBE2.out.o0
              simp at xo0
              have HLR := Lib.hid (show beL a k ⟨j0, j1, j2, j3, j4, j5, j6, j7, j8, j9, j10⟩ k = yl by unfold beL; rw [if_neg (fun e => by rw [HGB.out] at e; cases e.2), get_bangB HY.out])
              have BE6 := Lib.hid (HBE2.out.setN j5)
              have OL2 := Lib.hid (show (wr.setCell ⟨w.heap.size + 3, 0, none⟩ (.int .i64 j5)).ownsRow (w.heap.size + 4) 43 11 (.slice Al yl.length cl) (beL a k ⟨j0, j1, j2, j3, j4, j5, j6, j7, j8, j9, j10⟩ k).length ((beL a k ⟨j0, j1, j2, j3, j4, j5, j6, j7, j8, j9, j10⟩ k).flatMap It.cs) by rw [HLR.out]; exact own_set (own_base HO3.out hw4) (Nat.lt_succ_self _) _)
              go_upto_region 16 with fail
              clear xi3 fi zi xo0 fo zo HO3 HB2 HBE2
              generalize wr.setCell ⟨w.heap.size + 3, 0, none⟩ (.int .i64 j5) = W5 at *
              have xo1 := cellsAt BE6.out.o0 1
              have fo := frozAt BE6.out.o0
              have zo := blk_lt BE6.out.o0
              have hsz : w.heap.size + 4 ≤ W5.heap.size := by omega
              simp at xo1
              have O1 := BE6.out.g
              rw [HGL.out] at O1
              go_wp2_with (at_builtin; refine wpList_push _ rfl _ _ 24 rfl (w.heap.size + 4) 4 iI (.bool false) 1 1 Try.underlying24 HI.out HI0.out HI1.out HI2.out rfl (by decide) _ _ _ rfl O1 _ _ rfl rfl (by intro u hu; simp at hu; subst hu; rfl) (by unfold maxLen; omega) (by omega) (by omega) ?_)
              intro v5 W5 hown5 BG hblk
              obtain ⟨A5, c5, rfl⟩ := own_slice hown5
              have BE5 := Lib.hid (BE6.out.push1 (b := true) (v := .slice A5 (k + 1) c5) (by rw [HGL.out]; exact hown5) BG hblk)
              have OL5 := Lib.hid (BE6.out.push1k (v := .slice A5 (k + 1) c5) BG hblk OL2.out)
              have zo5 : w.heap.size + 3 < W5.heap.size := Nat.lt_of_lt_of_le zo BG.size
              have xo1 := (BG.cell (p := ⟨w.heap.size + 3, 1, none⟩) (by simp)).trans xo1
              have fo := (BG.frozen (p := ⟨w.heap.size + 3, 1, none⟩) (by simp)).trans (fo 1)
              clear hown5 BG hblk O1
              go_upto_region 17 with fail
              clear xo1 fo zo zo5 hsz BE6 OL2
              generalize W5.setCell ⟨w.heap.size + 3, 1, none⟩ (.slice A5 (k + 1) c5) = W6 at *
              have xo2 := cellsAt BE5.out.o0 2
              have fo := frozAt BE5.out.o0
              have zo := blk_lt BE5.out.o0
              simp at xo2
              have O2 := BE5.out.h
              rw [HHS.out.1] at O2
              go_wp2_with (at_builtin; refine wpList_push _ rfl _ _ 22 rfl (w.heap.size + 4) 32 iJ (.slice none 0 0) 1 24 Try.underlying22 HJ.out HJ0.out HJ1.out HJ2.out rfl (by decide) _ _ _ rfl O2 _ _ rfl rfl (by intro u hu; simp at hu; subst hu; rfl) (by unfold maxLen; omega) (by omega) (by omega) ?_)
              intro v7 W7 hown7 BG hblk
              obtain ⟨A7, c7, rfl⟩ := own_slice hown7
              have BE7 := Lib.hid (BE5.out.push2 (y := ⟨_, beL a k ⟨j0, j1, j2, j3, j4, j5, j6, j7, j8, j9, j10⟩ k⟩) (v := .slice A7 (k + 1) c7) OL5.out (by rw [HHS.out.1]; exact hown7) BG hblk)
              have xo2 := (BG.cell (p := ⟨w.heap.size + 3, 2, none⟩) (by simp)).trans xo2
              have fo := (BG.frozen (p := ⟨w.heap.size + 3, 2, none⟩) (by simp)).trans (fo 2)
              have zo7 : w.heap.size + 3 < W7.heap.size := Nat.lt_of_lt_of_le zo BG.size
              clear hown7 BG hblk O2 BE5 OL5 zo
              go_wp2_with fail
              go_roundw
              case rel =>
                have HB := BE7.out
                rw [← beG_succ a k k HGX.out] at HB
                have HB1 := HB
                exact ⟨k + 1, _, _, _, by rw [HLG.out]; omega, by go_num, by rw [beN_at a k ⟨j0, j1, j2, j3, j4, j5, j6, j7, j8, j9, j10⟩ HGB.out]; exact HB1, HHS.out.push ⟨_, beL a k ⟨j0, j1, j2, j3, j4, j5, j6, j7, j8, j9, j10⟩ k⟩ rfl⟩
              case measure => simp [intOf]; omega
          · have tN1 : ((k : Int) == (N : Int)) = false := by simp; omega
            have tN2 : decide ((k : Int) = (N : Int)) = false := by simp; omega
            have HGX := Lib.hid (show (a.got.set N true)[k]? = some x by rw [List.getElem?_set_ne (fun e => hkN e.symm)]; exact HX.out)
            have HLR := Lib.hid (show beL a N ⟨j0, j1, j2, j3, j4, j5, j6, j7, j8, j9, j10⟩ k = yl by unfold beL; rw [if_neg (fun e => hkN e.1), get_bangB HY.out])
            have OL2 := Lib.hid (show wr.ownsRow (w.heap.size + 4) 43 11 (.slice Al yl.length cl) (beL a N ⟨j0, j1, j2, j3, j4, j5, j6, j7, j8, j9, j10⟩ k).length ((beL a N ⟨j0, j1, j2, j3, j4, j5, j6, j7, j8, j9, j10⟩ k).flatMap It.cs) by rw [HLR.out]; exact own_base HO3.out hw4)
            clear HO3 HB2
            have xo1 := cellsAt HBE2.out.o0 1
            have fo := frozAt HBE2.out.o0
            have zo := blk_lt HBE2.out.o0
            have hsz : w.heap.size + 4 ≤ wr.heap.size := by omega
            simp at xo1
            have O1 := HBE2.out.g
            rw [HGL.out] at O1
            go_wp2_with (at_builtin; refine wpList_push _ rfl _ _ 24 rfl (w.heap.size + 4) 4 iI (.bool false) 1 1 Try.underlying24 HI.out HI0.out HI1.out HI2.out rfl (by decide) _ _ _ rfl O1 _ _ rfl rfl (by intro u hu; simp at hu; subst hu; rfl) (by unfold maxLen; omega) (by omega) (by omega) ?_)
            intro v5 W5 hown5 BG hblk
            obtain ⟨A5, c5, rfl⟩ := own_slice hown5
            have BE5 := Lib.hid (HBE2.out.push1 (b := x) (v := .slice A5 (k + 1) c5) (by rw [HGL.out]; exact hown5) BG hblk)
            have OL5 := Lib.hid (HBE2.out.push1k (v := .slice A5 (k + 1) c5) BG hblk OL2.out)
            have zo5 : w.heap.size + 3 < W5.heap.size := Nat.lt_of_lt_of_le zo BG.size
            have xo1 := (BG.cell (p := ⟨w.heap.size + 3, 1, none⟩) (by simp)).trans xo1
            have fo := (BG.frozen (p := ⟨w.heap.size + 3, 1, none⟩) (by simp)).trans (fo 1)
            clear hown5 BG hblk O1
            go_upto_region 17 with fail
            clear xo1 fo zo zo5 hsz HBE2 OL2
            generalize W5.setCell ⟨w.heap.size + 3, 1, none⟩ (.slice A5 (k + 1) c5) = W6 at *
            have xo2 := cellsAt BE5.out.o0 2
            have fo := frozAt BE5.out.o0
            have zo := blk_lt BE5.out.o0
            simp at xo2
            have O2 := BE5.out.h
            rw [HHS.out.1] at O2
            go_wp2_with (at_builtin; refine wpList_push _ rfl _ _ 22 rfl (w.heap.size + 4) 32 iJ (.slice none 0 0) 1 24 Try.underlying22 HJ.out HJ0.out HJ1.out HJ2.out rfl (by decide) _ _ _ rfl O2 _ _ rfl rfl (by intro u hu; simp at hu; subst hu; rfl) (by unfold maxLen; omega) (by omega) (by omega) ?_)
            intro v7 W7 hown7 BG hblk
            obtain ⟨A7, c7, rfl⟩ := own_slice hown7
            have BE7 := Lib.hid (BE5.out.push2 (y := ⟨_, beL a N ⟨j0, j1, j2, j3, j4, j5, j6, j7, j8, j9, j10⟩ k⟩) (v := .slice A7 (k + 1) c7) OL5.out (by rw [HHS.out.1]; exact hown7) BG hblk)
            have xo2 := (BG.cell (p := ⟨w.heap.size + 3, 2, none⟩) (by simp)).trans xo2
            have fo := (BG.frozen (p := ⟨w.heap.size + 3, 2, none⟩) (by simp)).trans (fo 2)
            have zo7 : w.heap.size + 3 < W7.heap.size := Nat.lt_of_lt_of_le zo BG.size
            clear hown7 BG hblk O2 BE5 OL5 zo
            go_wp2_with fail
            go_roundw
            case rel =>
              have HB := BE7.out
              rw [← beG_succ a N k HGX.out] at HB
              rw [← beN_succ a N ⟨j0, j1, j2, j3, j4, j5, j6, j7, j8, j9, j10⟩ k (.inl hkN)] at HB
              exact ⟨k + 1, _, _, _, by rw [HLG.out]; omega, by go_num, HB, HHS.out.push ⟨_, beL a N ⟨j0, j1, j2, j3, j4, j5, j6, j7, j8, j9, j10⟩ k⟩ rfl⟩
            case measure => simp [intOf]; omega
    · obtain rfl : k = lg := by omega
      have xo0 := cellsAt HBE.out.o0 0
      have xo1 := cellsAt HBE.out.o0 1
      have xo2 := cellsAt HBE.out.o0 2
      have fo := frozAt HBE.out.o0
      have zzo := blk_lt HBE.out.o0
      simp at xo0 xo1 xo2
      have xz0 := cellsAt HBE.out.z0 0
      have xz1 := cellsAt HBE.out.z0 1
      have xz2 := cellsAt HBE.out.z0 2
      have fz := frozAt HBE.out.z0
      have zzz := blk_lt HBE.out.z0
      simp at xz0 xz1 xz2
      go_wp2_with fail
      have E := blk_set (blk_set (blk_set HBE.out.z0 0 (.int .i64 (beN a N ⟨j0, j1, j2, j3, j4, j5, j6, j7, j8, j9, j10⟩ k))) 1 (.slice A1 k c1)) 2 (.slice A2 k c2)
      simp at E
      have hw : w.heap.size + 2 < w.heap.size + 4 := by omega
      have OG := Lib.hid (own_set (own_set (own_set (HBE.out.g) (p := ⟨w.heap.size + 2, 0, none⟩) hw (.int .i64 (beN a N ⟨j0, j1, j2, j3, j4, j5, j6, j7, j8, j9, j10⟩ k))) (p := ⟨w.heap.size + 2, 1, none⟩) hw (.slice A1 k c1)) (p := ⟨w.heap.size + 2, 2, none⟩) hw (.slice A2 k c2))
      have OH := Lib.hid (own_set (own_set (own_set (HBE.out.h) (p := ⟨w.heap.size + 2, 0, none⟩) hw (.int .i64 (beN a N ⟨j0, j1, j2, j3, j4, j5, j6, j7, j8, j9, j10⟩ k))) (p := ⟨w.heap.size + 2, 1, none⟩) hw (.slice A1 k c1)) (p := ⟨w.heap.size + 2, 2, none⟩) hw (.slice A2 k c2))
      have OX := Lib.hid (fun x hx => own_set (own_set (own_set (HBE.out.hx x hx) (p := ⟨w.heap.size + 2, 0, none⟩) hw (.int .i64 (beN a N ⟨j0, j1, j2, j3, j4, j5, j6, j7, j8, j9, j10⟩ k))) (p := ⟨w.heap.size + 2, 1, none⟩) hw (.slice A1 k c1)) (p := ⟨w.heap.size + 2, 2, none⟩) hw (.slice A2 k c2))
      have BB := Lib.hid (((HBE.out.bel.setCell (p := ⟨w.heap.size + 2, 0, none⟩) (Nat.le_add_right _ _) (.int .i64 (beN a N ⟨j0, j1, j2, j3, j4, j5, j6, j7, j8, j9, j10⟩ k))).setCell (p := ⟨w.heap.size + 2, 1, none⟩) (Nat.le_add_right _ _) (.slice A1 k c1)).setCell (p := ⟨w.heap.size + 2, 2, none⟩) (Nat.le_add_right _ _) (.slice A2 k c2))
      clear xo0 xo1 xo2 fo zzo xz0 xz1 xz2 fz zzz HBE
      generalize ((wr.setCell ⟨w.heap.size + 2, 0, none⟩ (.int .i64 (beN a N ⟨j0, j1, j2, j3, j4, j5, j6, j7, j8, j9, j10⟩ k))).setCell ⟨w.heap.size + 2, 1, none⟩ (.slice A1 k c1)).setCell ⟨w.heap.size + 2, 2, none⟩ (.slice A2 k c2) = W6 at *
      have e0 := cellsAt E 0
      have e1 := cellsAt E 1
      have e2 := cellsAt E 2
      simp at e0 e1 e2
      have HLK := be_like (it := ⟨j0, j1, j2, j3, j4, j5, j6, j7, j8, j9, j10⟩) (by rw [HLH.out]; exact HHS.out) (show N < a.got.length by rw [HLG.out]; exact hNlt) (by rw [HLH.out, HLG.out])
      rw [HLH.out, HLG.out] at HLK
      refine bodyPost_ret (v := .agg #[.int .i64 (beN a N ⟨j0, j1, j2, j3, j4, j5, j6, j7, j8, j9, j10⟩ k), .slice A1 k c1, .slice A2 k c2]) (by simp [results, Try.results53, go_sem, e0, e1, e2]) rfl ⟨⟨_, _, rfl, fun W' hW' => ?_, HLK⟩, BB.out⟩
      have ok : ∀ {e : TypeId} {s n : Nat} {x : Value} {xs : List Value}, W6.ownsRow (w.heap.size + 4) e s x n xs → W'.ownsRow (w.heap.size + 4) e s x n xs := fun h => own_keep h (fun j hj => hW' j (by have := (h.lt j hj).1; omega) (h.lt j hj).2)
      refine ⟨_, _, rfl, beN_wf HWN.out HWF.out.2.2.2.2.2.1 N k, ⟨Row.of_own bCs_len (n := k) (by have := ok OG.out; rw [HGL.out] at this; exact this) (by rw [HGL.out]), by rw [HGL.out]; unfold maxLen; omega⟩, Row.of_own Hl.cs_len (n := k) (by have := ok OH.out; rw [HHS.out.1] at this; exact this) (by rw [HHS.out.1]), fun x hx => ?_, by rw [HHS.out.1]; unfold maxLen; omega⟩
      obtain ⟨j, hj⟩ := List.mem_iff_getElem?.1 hx
      have hxl := HHS.out.2 j x hj
      refine ⟨Row.of_own It.cs_len (ok (OX.out x hx)) rfl, ?_, ?_⟩
      · rw [hxl]; exact beL_wf HV.out N HWF.out j
      · rw [hxl]; have := beL_le HHL.out N ⟨j0, j1, j2, j3, j4, j5, j6, j7, j8, j9, j10⟩ j; unfold maxLen; omega
end Go.Proofs.Ytenpgkkefielfaa
