/-
  WALKS of layer 18: the program's Offer: an input that got its barrier holds one more.
-/
import Derived.Test.YtenpgkkefielfaaAlignW13
set_option linter.unusedVariables false
set_option linter.unusedSimpArgs false
namespace Go.Proofs.Ytenpgkkefielfaa
open Go.RowKit

/-- A row that lies in a block that is new, if anywhere. -/
def RowNew (w : World) (v : Value) : Prop := ∀ k, v.ownBlock = some k → w.heap.size ≤ k
set_option maxRecDepth 100000 in
set_option maxHeartbeats 8000000 in
theorem offer_held (a : Aln) (N : Nat) (it : It) (hwf : it.Wf) (v : Value) (w : World) (hv : AlAt w v a) (hr : rightA a = true) (hri : rightI it = true) (hNlt : N < a.got.length) (hlen8 : a.got.length ≤ 8) (x : Hl) (hx : a.held[N]? = some x) (g : Bool) (hg : a.got[N]? = some g) (hg1 : g = true) (h16 : x.l.length < 16) :
    Calls Try.prog 19 #[v, .int .i64 (N : Int), itV it] w fun e w' => (∃ v' row', e = .returned (.tuple #[v', .bool false, .int .i64 0, .slice none 0 0, .int .i64 0]) ∧ AlAt w' v' { a with held := a.held.set N ⟨row', x.l ++ [it]⟩ } ∧ FrH w v' ∧ RowNew w row') ∧ Below w.heap.size w w' := by
  have HV := Lib.hid hv
  have HWF := Lib.hid hwf
  have HOW := Lib.hid (fun v W hW => aown_any a v W hW (by omega) (by have := (right_parts hr).1; omega))
  have hp := right_parts hr
  have HRI := Lib.hid (fun W => right_any it W true hri)
  have HHA := Lib.hid (show hasA a (N : Int) = true from decide_eq_true ⟨hr, by omega, by omega⟩)
  have hi : wfL (N : Int) := by unfold wfL; omega
  have hN8 : N < 8 := by omega
  have HX := Lib.hid hx
  have HG := Lib.hid hg
  have HPP := Lib.hid hp
  have hxl := hp.2.2 N x hx
  have HH := Lib.hid (fun v W hW => ahas_any a (N : Int) hi v W hW)
  have HF := Lib.hid ofail_any
  unfold zAV at HF
  obtain ⟨Ag, cg, Ah, ch, rfl, -, -, -, hn, hlg, hlh⟩ := al_form hv
  unfold maxLen at hlg hlh
  obtain ⟨lg, hlg'⟩ : ∃ n, a.got.length = n := ⟨_, rfl⟩
  obtain ⟨lh, hlh'⟩ : ∃ n, a.held.length = n := ⟨_, rfl⟩
  have HLG := Lib.hid hlg'
  have HLH := Lib.hid hlh'
  rw [hlg', hlh'] at HV
  rw [hlg'] at hlg
  rw [hlh'] at hlh
  rw [hlg', hlh']
  unfold wfL at hi hn
  clear hv hlg' hlh' hwf
  obtain ⟨j0, j1, j2, j3, j4, j5, j6, j7, j8, j9, j10⟩ := it
  unfold itV
  unfold itV at HRI
  change Hid (∀ v W, AlAt W v a → Calls Try.prog 44 #[v, .int .i64 (N : Int)] W fun e w' => e = .returned (.bool (hasA a (N : Int))) ∧ Below W.heap.size W w') at HH
  rw [HHA.out] at HH
  have hlgh : lh = lg := by rw [← HLH.out, ← HLG.out]; exact HPP.out.1
  subst hlgh
  have hNl : N < lh := by rw [← HLH.out]; exact (List.getElem?_eq_some_iff.1 HX.out).1
  obtain ⟨b0, o0, rfl⟩ := held_some HV.out (by rw [HLH.out]; omega)
  obtain ⟨b1, o1, rfl⟩ := got_some HV.out (by rw [HLG.out]; omega)
  have hNi : (0 : Int) ≤ (N : Int) := by omega
  have hNi2 : (N : Int) < (lh : Int) := by omega
  clear hx hg hp hr hri
  obtain ⟨xr, xl⟩ := x
  simp only at hxl
  simp only at h16
  subst hg1
  have t5 : decide (16 ≤ (xl.length : Int)) = false := by simp; omega
  have t6 : decide (16 ≤ xl.length) = false := by simp; omega
  have HKI := Lib.hid (fun v W hW => cloneI_any xl v W hW (by omega) It.cs_one)
  obtain ⟨i0, hi0', hz0, hz1, hz2⟩ := info_parts info_it
  have HI := Lib.hid hi0'
  have HZ0 := Lib.hid hz0
  have HZ1 := Lib.hid hz1
  have HZ2 := Lib.hid hz2
  clear hi0' hz0 hz1 hz2
  go_enter Try.func19, Try.ntmps19
  go_wp2_with fail
  have KV := HV
  obtain ⟨W1, hW2⟩ : ∃ X, X = (((w).alloc (.cells #[.int .i64 a.n, .slice (some ⟨b1, o1, none⟩) lh cg, .slice (some ⟨b0, o0, none⟩) lh ch] 26)).alloc (.cells #[.int .i64 j0, .string j1, .int .i64 j2, .int .i64 j3, .int .i64 j4, .int .i64 j5, .int .i64 j6, .int .i64 j7, .string j8, .int .i64 j9, .int .i64 j10] 43)).alloc (.cells #[.int .i64 0, .slice none 0 0, .slice none 0 0] 26) := ⟨_, rfl⟩
  rw [← hW2]
  have hb3 : Below w.heap.size w W1 := by rw [hW2]; exact bel_alloc (bel_alloc (bel_alloc (Below.refl _ _) _) _) _
  have Ns := Lib.hid (show W1.heap[w.heap.size]? = some (.cells #[.int .i64 a.n, .slice (some ⟨b1, o1, none⟩) lh cg, .slice (some ⟨b0, o0, none⟩) lh ch] 26 (0, 0)) by rw [hW2]; exact heap_below (heap_at (w) _ (w.heap.size) (by simp)) (bel_alloc (bel_alloc (Below.refl _ _) _) _))
  have Nt := Lib.hid (show W1.heap[w.heap.size + 1]? = some (.cells #[.int .i64 j0, .string j1, .int .i64 j2, .int .i64 j3, .int .i64 j4, .int .i64 j5, .int .i64 j6, .int .i64 j7, .string j8, .int .i64 j9, .int .i64 j10] 43 (0, 0)) by rw [hW2]; exact heap_below (heap_at ((w).alloc (.cells #[.int .i64 a.n, .slice (some ⟨b1, o1, none⟩) lh cg, .slice (some ⟨b0, o0, none⟩) lh ch] 26)) _ (w.heap.size + 1) (by simp)) (bel_alloc (Below.refl _ _) _))
  have Nz := Lib.hid (show W1.heap[w.heap.size + 1 + 1]? = some (.cells #[.int .i64 0, .slice none 0 0, .slice none 0 0] 26 (0, 0)) by rw [hW2]; exact heap_at (((w).alloc (.cells #[.int .i64 a.n, .slice (some ⟨b1, o1, none⟩) lh cg, .slice (some ⟨b0, o0, none⟩) lh ch] 26)).alloc (.cells #[.int .i64 j0, .string j1, .int .i64 j2, .int .i64 j3, .int .i64 j4, .int .i64 j5, .int .i64 j6, .int .i64 j7, .string j8, .int .i64 j9, .int .i64 j10] 43)) _ (w.heap.size + 1 + 1) (by simp))
  clear hW2
  have Z := Lib.hid (AlAt.below KV.out hb3)
  clear KV
  have KV := Z
  clear Z
  have BB4 := Lib.hid hb3
  clear hb3
  have Bls := Ns
  clear Ns
  have Blt := Nt
  clear Nt
  have Blz := Nz
  clear Nz
  refine (HH.out _ _ KV.out).mono ?_
  rintro e w5 ⟨rfl, hb6⟩
  have Z := Lib.hid (heap_below Bls.out hb6)
  clear Bls
  have Bls := Z
  clear Z
  have Z := Lib.hid (heap_below Blt.out hb6)
  clear Blt
  have Blt := Z
  clear Z
  have Z := Lib.hid (heap_below Blz.out hb6)
  clear Blz
  have Blz := Z
  clear Z
  have Z := Lib.hid (AlAt.below KV.out hb6)
  clear KV
  have KV := Z
  clear Z
  have BB7 := Lib.hid (bThen BB4.out hb6)
  clear hb6
  have zt := blk_lt Blt.out
  have xt0 := cellsAt Blt.out 0
  have xt1 := cellsAt Blt.out 1
  have xt2 := cellsAt Blt.out 2
  have xt3 := cellsAt Blt.out 3
  have xt4 := cellsAt Blt.out 4
  have xt5 := cellsAt Blt.out 5
  have xt6 := cellsAt Blt.out 6
  have xt7 := cellsAt Blt.out 7
  have xt8 := cellsAt Blt.out 8
  have xt9 := cellsAt Blt.out 9
  have xt10 := cellsAt Blt.out 10
  have ft := frozAt Blt.out
  simp at xt0 xt1 xt2 xt3 xt4 xt5 xt6 xt7 xt8 xt9 xt10
  go_wp2_with fail
  refine (HRI.out _).mono ?_
  rintro e w8 ⟨rfl, hb9⟩
  clear zt ft xt0 xt1 xt2 xt3 xt4 xt5 xt6 xt7 xt8 xt9 xt10
  have Z := Lib.hid (heap_below Bls.out hb9)
  clear Bls
  have Bls := Z
  clear Z
  have Z := Lib.hid (heap_below Blt.out hb9)
  clear Blt
  have Blt := Z
  clear Z
  have Z := Lib.hid (heap_below Blz.out hb9)
  clear Blz
  have Blz := Z
  clear Z
  have Z := Lib.hid (AlAt.below KV.out hb9)
  clear KV
  have KV := Z
  clear Z
  have BB10 := Lib.hid (bThen BB7.out hb9)
  clear hb9
  obtain ⟨hbh, ch0, hxa⟩ := held_at KV.out HX.out
  obtain ⟨hbg, cg0⟩ := got_at KV.out HG.out
  simp only at ch0
  have RX := Lib.hid hxa
  obtain ⟨⟨Ax, cx, hxe, -, -⟩, -, -⟩ := RX.out
  simp only at hxe
  subst hxe
  have zs := blk_lt Bls.out
  have xs0 := cellsAt Bls.out 0
  have xs1 := cellsAt Bls.out 1
  have xs2 := cellsAt Bls.out 2
  have fs := frozAt Bls.out
  simp at xs0 xs1 xs2
  have zt := blk_lt Blt.out
  have xt0 := cellsAt Blt.out 0
  have xt1 := cellsAt Blt.out 1
  have xt2 := cellsAt Blt.out 2
  have xt3 := cellsAt Blt.out 3
  have xt4 := cellsAt Blt.out 4
  have xt5 := cellsAt Blt.out 5
  have xt6 := cellsAt Blt.out 6
  have xt7 := cellsAt Blt.out 7
  have xt8 := cellsAt Blt.out 8
  have xt9 := cellsAt Blt.out 9
  have xt10 := cellsAt Blt.out 10
  have ft := frozAt Blt.out
  simp at xt0 xt1 xt2 xt3 xt4 xt5 xt6 xt7 xt8 xt9 xt10
  have zz := blk_lt Blz.out
  have xz0 := cellsAt Blz.out 0
  have xz1 := cellsAt Blz.out 1
  have xz2 := cellsAt Blz.out 2
  have fz := frozAt Blz.out
  simp at xz0 xz1 xz2
  go_wp2_with fail
  have hlew11 := Lib.hid (show w.heap.size + 1 + 1 + 1 ≤ w8.heap.size by have := blk_lt Blz.out; omega)
  refine (HOW.out _ _ KV.out).mono ?_
  rintro e w11 ⟨p, Ap, cp, Aq, cq, rfl, hp, hbp, hog, hoh, hhl, hb12⟩
  clear zs fs xs0 xs1 xs2 zt ft xt0 xt1 xt2 xt3 xt4 xt5 xt6 xt7 xt8 xt9 xt10 zz fz xz0 xz1 xz2
  have Z := Lib.hid (heap_below Bls.out hb12)
  clear Bls
  have Bls := Z
  clear Z
  have Z := Lib.hid (heap_below Blt.out hb12)
  clear Blt
  have Blt := Z
  clear Z
  have Z := Lib.hid (heap_below Blz.out hb12)
  clear Blz
  have Blz := Z
  clear Z
  have Z := Lib.hid (AlAt.below KV.out hb12)
  clear KV
  have KV := Z
  clear Z
  have Z := Lib.hid (RowI.below RX.out hb12)
  clear RX
  have RX := Z
  clear Z
  have BB13 := Lib.hid (bThen BB10.out hb12)
  clear hb12
  rw [HLG.out] at hbp hog
  rw [HLH.out] at hbp hoh
  have hp3 : w.heap.size + 1 + 1 + 1 ≤ p := Nat.le_trans hlew11.out hp
  have Blp := Lib.hid hbp
  have OG := Lib.hid (own_base hog hlew11.out)
  have OH := Lib.hid (own_base hoh hlew11.out)
  clear hbp hog hoh hhl hp
  have zs := blk_lt Bls.out
  have xs0 := cellsAt Bls.out 0
  have xs1 := cellsAt Bls.out 1
  have xs2 := cellsAt Bls.out 2
  have fs := frozAt Bls.out
  simp at xs0 xs1 xs2
  have zt := blk_lt Blt.out
  have xt0 := cellsAt Blt.out 0
  have xt1 := cellsAt Blt.out 1
  have xt2 := cellsAt Blt.out 2
  have xt3 := cellsAt Blt.out 3
  have xt4 := cellsAt Blt.out 4
  have xt5 := cellsAt Blt.out 5
  have xt6 := cellsAt Blt.out 6
  have xt7 := cellsAt Blt.out 7
  have xt8 := cellsAt Blt.out 8
  have xt9 := cellsAt Blt.out 9
  have xt10 := cellsAt Blt.out 10
  have ft := frozAt Blt.out
  simp at xt0 xt1 xt2 xt3 xt4 xt5 xt6 xt7 xt8 xt9 xt10
  have zz := blk_lt Blz.out
  have xz0 := cellsAt Blz.out 0
  have xz1 := cellsAt Blz.out 1
  have xz2 := cellsAt Blz.out 2
  have fz := frozAt Blz.out
  simp at xz0 xz1 xz2
  have zp := blk_lt Blp.out
  have xp0 := cellsAt Blp.out 0
  have xp1 := cellsAt Blp.out 1
  have xp2 := cellsAt Blp.out 2
  have fp := frozAt Blp.out
  simp at xp0 xp1 xp2
  obtain ⟨kg, cg1, eg, hkg, hkgl, -⟩ := own_form OG.out (by omega)
  injection eg with eg1 _ eg2
  subst eg1 eg2
  obtain ⟨kh, ch1, eh, hkh, hkhl, -⟩ := own_form OH.out (by omega)
  injection eh with eh1 _ eh2
  subst eh1 eh2
  have xg := (OG.out.cellAt N (by omega)).trans (show _ = some (Value.bool _) by simpa using flat_at bCs_len HG.out (j := 0) rfl)
  have xh := (OH.out.cellAt N (by omega)).trans (show _ = some (Value.slice Ax xl.length cx) by simpa using flat_at Hl.cs_len HX.out (j := 0) rfl)
  clear zs fs xs0 xs1 xs2 zt ft xt0 xt1 xt2 xt3 xt4 xt5 xt6 xt7 xt8 xt9 xt10 zz fz xz0 xz1 xz2 zp fp xp0 xp1 xp2
  have zs := blk_lt Bls.out
  have xs0 := cellsAt Bls.out 0
  have xs1 := cellsAt Bls.out 1
  have xs2 := cellsAt Bls.out 2
  have fs := frozAt Bls.out
  simp at xs0 xs1 xs2
  have zt := blk_lt Blt.out
  have xt0 := cellsAt Blt.out 0
  have xt1 := cellsAt Blt.out 1
  have xt2 := cellsAt Blt.out 2
  have xt3 := cellsAt Blt.out 3
  have xt4 := cellsAt Blt.out 4
  have xt5 := cellsAt Blt.out 5
  have xt6 := cellsAt Blt.out 6
  have xt7 := cellsAt Blt.out 7
  have xt8 := cellsAt Blt.out 8
  have xt9 := cellsAt Blt.out 9
  have xt10 := cellsAt Blt.out 10
  have ft := frozAt Blt.out
  simp at xt0 xt1 xt2 xt3 xt4 xt5 xt6 xt7 xt8 xt9 xt10
  have zz := blk_lt Blz.out
  have xz0 := cellsAt Blz.out 0
  have xz1 := cellsAt Blz.out 1
  have xz2 := cellsAt Blz.out 2
  have fz := frozAt Blz.out
  simp at xz0 xz1 xz2
  have zp := blk_lt Blp.out
  have xp0 := cellsAt Blp.out 0
  have xp1 := cellsAt Blp.out 1
  have xp2 := cellsAt Blp.out 2
  have fp := frozAt Blp.out
  simp at xp0 xp1 xp2
  go_wp2_with fail
  have FP := Lib.hid (fun W' (hb : Below w11.heap.size w11 W') => And.intro ((hb.cell (p := ⟨p, 2, none⟩) zp).trans xp2) (And.intro ((hb.frozen (p := ⟨kh, N, none⟩) hkhl).trans (OH.out.frozenAt N)) (And.intro ((hb.cell (p := ⟨kh, N, none⟩) hkhl).trans xh) ((hb.cell (p := ⟨p, 1, none⟩) zp).trans xp1))))
  have FT := Lib.hid (fun W' (hb : Below w11.heap.size w11 W') => And.intro ((hb.cell (p := ⟨w.heap.size + 1, 0, none⟩) zt).trans xt0) (And.intro ((hb.cell (p := ⟨w.heap.size + 1, 1, none⟩) zt).trans xt1) (And.intro ((hb.cell (p := ⟨w.heap.size + 1, 2, none⟩) zt).trans xt2) (And.intro ((hb.cell (p := ⟨w.heap.size + 1, 3, none⟩) zt).trans xt3) (And.intro ((hb.cell (p := ⟨w.heap.size + 1, 4, none⟩) zt).trans xt4) (And.intro ((hb.cell (p := ⟨w.heap.size + 1, 5, none⟩) zt).trans xt5) (And.intro ((hb.cell (p := ⟨w.heap.size + 1, 6, none⟩) zt).trans xt6) (And.intro ((hb.cell (p := ⟨w.heap.size + 1, 7, none⟩) zt).trans xt7) (And.intro ((hb.cell (p := ⟨w.heap.size + 1, 8, none⟩) zt).trans xt8) (And.intro ((hb.cell (p := ⟨w.heap.size + 1, 9, none⟩) zt).trans xt9) ((hb.cell (p := ⟨w.heap.size + 1, 10, none⟩) zt).trans xt10)))))))))))
  have RX1 := RX.out.1
  go_region_law (first | (go_simp; go_at_call 47; refine (HKI.out _ _ (by first | assumption | exact Row.alloc (by assumption) _)).mono ?_; rintro e w4 ⟨v4, rfl, hown, hb4⟩; obtain ⟨A4, c4, rfl⟩ := own_slice hown; have hB : Below w11.heap.size w11 w4 := (by first | exact hb4 | exact bUndrew hb4 | exact belA (Below.refl _ _) hb4 | exact belA (Below.refl _ _) (bUndrew hb4) | exact bUndrew (belA (Below.refl _ _) hb4) | exact bUndrew (belA (Below.refl _ _) (bUndrew hb4))); obtain ⟨y20, y21, -⟩ := FP.out _ hB; obtain ⟨y0, y1, y2, y3, y4, y5, y6, y7, y8, y9, y10⟩ := FT.out _ hB; have hq := hb4.size; have y22 : p < w4.heap.size := Nat.lt_of_lt_of_le zp hB.size) | (refine step_own rfl _ _ 32 rfl _ 43 i0 (itV itZ) 11 104 Try.underlying32 HI.out HZ0.out HZ1.out HZ2.out rfl (by decide) _ _ _ rfl (by first | exact hown | exact hown.alloc _) _ 1 1 [.int .i64 j0, .string j1, .int .i64 j2, .int .i64 j3, .int .i64 j4, .int .i64 j5, .int .i64 j6, .int .i64 j7, .string j8, .int .i64 j9, .int .i64 j10] rfl rfl (by intro j u hj; match j, hj with | 0, hj | 1, hj | 2, hj | 3, hj | 4, hj | 5, hj | 6, hj | 7, hj | 8, hj | 9, hj | 10, hj => (simp at hj; subst hj; first | (simp [Addr.add]; done) | (refine (hb4.cell (by simp [Addr.add])).trans ?_; simp [Addr.add]))) (by intro u hu; simp at hu; rcases hu with rfl | rfl | rfl | rfl | rfl | rfl | rfl | rfl | rfl | rfl | rfl <;> rfl) (by unfold maxLen; omega) (by omega) (by have hq := hb4.size; simp at hq ⊢; omega) ?_; intro v5 W5 hown5 hgrow5 _; obtain ⟨A5, c5, rfl⟩ := own_slice hown5; have BG : Below w11.heap.size w11 W5 := Below.grown (by first | exact hB | exact bel_alloc hB _ | exact Below.drew hB | exact bel_alloc (Below.drew hB) _ | exact Below.drew (bel_alloc hB _)) hgrow5 (by have hq := hb4.size; simp at hq ⊢; try omega) (fun q hq => by have := (hown.lt _ hq).1; simp at this ⊢; omega); obtain ⟨z20, z21, z22, -⟩ := FP.out _ BG))
  all_goals
    have hne := own_at_ne (own_below OH.out BG) (heap_below Blp.out BG) (by decide)
    have hkhl5 := (OH.out.lt kh rfl).2
    have hq4 := hb4.size
    have hq5 := BG.size
    have hkh1 := (OH.out.lt kh rfl).1
    have P1 := Lib.hid ((Below.heap_setCell W5 ⟨kh, N, none⟩ (.slice A5 (xl.length + 1) c5) p (fun e => hne e.symm)).trans (heap_below Blp.out BG))
    have P2 := Lib.hid ((Below.heap_setCell W5 ⟨kh, N, none⟩ (.slice A5 (xl.length + 1) c5) (w.heap.size + 1 + 1) (by show _ ≠ kh; omega)).trans (heap_below Blz.out BG))
    have BS := Lib.hid ((bThen BB13.out BG).setCell (p := ⟨kh, N, none⟩) (show w.heap.size ≤ kh by omega) (.slice A5 (xl.length + 1) c5))
    have OH6 := Lib.hid (own_held (own_below OH.out BG) (show N < a.held.length by rw [HLH.out]; omega) ⟨(.slice A5 (xl.length + 1) c5), xl ++ [⟨j0, j1, j2, j3, j4, j5, j6, j7, j8, j9, j10⟩]⟩)
    have OG6 := Lib.hid (own_away (own_below OG.out BG) (own_ne OG.out OH.out (by decide)) N (.slice A5 (xl.length + 1) c5))
    have ON6 := Lib.hid (own_base (own_set hown5 (p := ⟨kh, N, none⟩) (by simp; try omega) (.slice A5 (xl.length + 1) c5)) (base' := w.heap.size + 1 + 1 + 1) (by simp; try omega))
    clear BG z20 z21 z22 hown5 hgrow5 hb4 hown hne FP FT Blp Blz OH OG
    generalize W5.setCell ⟨kh, N, none⟩ (.slice A5 (xl.length + 1) c5) = W6 at *
    have Blp := P1
    have Blz := P2
    clear P1 P2
    have zp := blk_lt Blp.out
    have xp0 := cellsAt Blp.out 0
    have xp1 := cellsAt Blp.out 1
    have xp2 := cellsAt Blp.out 2
    have fp := frozAt Blp.out
    simp at xp0 xp1 xp2
    have zz := blk_lt Blz.out
    have xz0 := cellsAt Blz.out 0
    have xz1 := cellsAt Blz.out 1
    have xz2 := cellsAt Blz.out 2
    have fz := frozAt Blz.out
    simp at xz0 xz1 xz2
    go_wp2_with fail
    have hge2 : w.heap.size ≤ w.heap.size + 1 + 1 := by omega
    have hgl2 : w.heap.size + 1 + 1 < w.heap.size + 1 + 1 + 1 := by omega
    have E := blk_set (blk_set (blk_set Blz.out 0 (.int .i64 a.n)) 1 (.slice (some ⟨kg, 0, none⟩) lh cp)) 2 (.slice (some ⟨kh, 0, none⟩) lh cq)
    simp at E
    have BE := Lib.hid (((BS.out.setCell (p := ⟨w.heap.size + 1 + 1, 0, none⟩) hge2 (.int .i64 a.n)).setCell (p := ⟨w.heap.size + 1 + 1, 1, none⟩) hge2 (.slice (some ⟨kg, 0, none⟩) lh cp)).setCell (p := ⟨w.heap.size + 1 + 1, 2, none⟩) hge2 (.slice (some ⟨kh, 0, none⟩) lh cq))
    have OH69 := Lib.hid (own_set (own_set (own_set OH6.out (p := ⟨w.heap.size + 1 + 1, 0, none⟩) hgl2 (.int .i64 a.n)) (p := ⟨w.heap.size + 1 + 1, 1, none⟩) hgl2 (.slice (some ⟨kg, 0, none⟩) lh cp)) (p := ⟨w.heap.size + 1 + 1, 2, none⟩) hgl2 (.slice (some ⟨kh, 0, none⟩) lh cq))
    have OG69 := Lib.hid (own_set (own_set (own_set OG6.out (p := ⟨w.heap.size + 1 + 1, 0, none⟩) hgl2 (.int .i64 a.n)) (p := ⟨w.heap.size + 1 + 1, 1, none⟩) hgl2 (.slice (some ⟨kg, 0, none⟩) lh cp)) (p := ⟨w.heap.size + 1 + 1, 2, none⟩) hgl2 (.slice (some ⟨kh, 0, none⟩) lh cq))
    have ON69 := Lib.hid (own_set (own_set (own_set ON6.out (p := ⟨w.heap.size + 1 + 1, 0, none⟩) hgl2 (.int .i64 a.n)) (p := ⟨w.heap.size + 1 + 1, 1, none⟩) hgl2 (.slice (some ⟨kg, 0, none⟩) lh cp)) (p := ⟨w.heap.size + 1 + 1, 2, none⟩) hgl2 (.slice (some ⟨kh, 0, none⟩) lh cq))
    clear zp fp xp0 xp1 xp2 zz fz xz0 xz1 xz2
    clear Blz OH6 OG6 ON6
    generalize ((W6.setCell ⟨w.heap.size + 1 + 1, 0, none⟩ (.int .i64 a.n)).setCell ⟨w.heap.size + 1 + 1, 1, none⟩ (.slice (some ⟨kg, 0, none⟩) lh cp)).setCell ⟨w.heap.size + 1 + 1, 2, none⟩ (.slice (some ⟨kh, 0, none⟩) lh cq) = W9 at *
    have e0 := cellsAt E 0
    have e1 := cellsAt E 1
    have e2 := cellsAt E 2
    simp at e0 e1 e2
    refine bodyPost_ret (v := .tuple #[.agg #[.int .i64 a.n, .slice (some ⟨kg, 0, none⟩) lh cp, .slice (some ⟨kh, 0, none⟩) lh cq], .bool false, .int .i64 0, .slice none 0 0, .int .i64 0]) (by simp [results, Try.results19, go_sem, e0, e1, e2]) rfl ?_
    have RN := Row.of_own It.cs_len (l := xl ++ [⟨j0, j1, j2, j3, j4, j5, j6, j7, j8, j9, j10⟩]) (by rw [List.flatMap_append]; exact ON69.out) (by simp)
    obtain ⟨_, _, -, hwn, -, -, hX5, -⟩ := HV.out.below BE.out
    have hR1 : Row bCs 1 W9 (.slice (some ⟨kg, 0, none⟩) lh cp) a.got := Row.of_own bCs_len OG69.out (by rw [HLG.out])
    have hR2 : Row Hl.cs 1 W9 (.slice (some ⟨kh, 0, none⟩) lh cq) (a.held.set N ⟨(.slice A5 (xl.length + 1) c5), xl ++ [⟨j0, j1, j2, j3, j4, j5, j6, j7, j8, j9, j10⟩]⟩) := Row.of_own Hl.cs_len OH69.out (by rw [List.length_set, HLH.out])
    refine ⟨⟨_, _, rfl, ⟨_, _, rfl, hwn, ⟨hR1, by rw [HLG.out]; unfold maxLen; omega⟩, hR2, ?_, by rw [List.length_set, HLH.out]; unfold maxLen; omega⟩, ⟨_, _, kh, 0, _, _, rfl, by omega, fun k hk => by have := (OG69.out.lt k hk).1; omega⟩, fun k hk => by have := (ON69.out.lt k hk).1; omega⟩, BE.out⟩
    intro x hx
    rcases List.mem_or_eq_of_mem_set hx with h | h
    · exact hX5 x h
    · subst h
      refine ⟨RN, fun y hy => ?_, by simp; unfold maxLen; omega⟩
      rcases List.mem_append.1 hy with h | h
      · exact RX.out.2.1 y h
      · simp at h; subst h; exact HWF.out
end Go.Proofs.Ytenpgkkefielfaa
