/-
  WALKS of layer 18: the program's Offer: a barrier comes, and another input still waits for it.
-/
import Derived.Test.YtenpgkkefielfaaAlignW13
set_option linter.unusedVariables false
set_option linter.unusedSimpArgs false
namespace Go.Proofs.Ytenpgkkefielfaa
open Go.RowKit

set_option maxRecDepth 100000 in
set_option maxHeartbeats 8000000 in
theorem offer_barrier (a : Aln) (N : Nat) (it : It) (hwf : it.Wf) (v : Value) (w : World) (hv : AlAt w v a) (hr : rightA a = true) (hri : rightI it = true) (hNlt : N < a.got.length) (hlen8 : a.got.length ≤ 8) (x : Hl) (hx : a.held[N]? = some x) (g : Bool) (hg : a.got[N]? = some g) (hg1 : g = false) (hk : it.kind = 4) (hn01 : a.n = 0 ∨ a.n = it.n) (hc : (a.got.set N true).contains false = true) :
    Calls Try.prog 19 #[v, .int .i64 (N : Int), itV it] w fun e w' => (∃ v', e = .returned (.tuple #[v', .bool false, .int .i64 0, .slice none 0 0, .int .i64 0]) ∧ AlAt w' v' ⟨it.n, a.got.set N true, a.held⟩ ∧ FrH w v') ∧ Below w.heap.size w w' := by
  have HV := Lib.hid hv
  have HWF := Lib.hid hwf
  have HOW := Lib.hid (fun v W hW => aown_any a v W hW (by omega) (by have := (right_parts hr).1; omega))
  have hp := right_parts hr
  have HRI := Lib.hid (fun W => right_any it W true hri)
  have HHA := Lib.hid (show hasA a (N : Int) = true from decide_eq_true ⟨hr, by omega, by omega⟩)
  have hi : wfL (N : Int) := by unfold wfL; omega
  have hN8 : N < 8 := by omega
  have HX := Lib.hid hx
  have HG := Lib.hid hg
  have HPP := Lib.hid hp
  have hxl := hp.2.2 N x hx
  have HH := Lib.hid (fun v W hW => ahas_any a (N : Int) hi v W hW)
  have HF := Lib.hid ofail_any
  unfold zAV at HF
  obtain ⟨Ag, cg, Ah, ch, rfl, -, -, -, hn, hlg, hlh⟩ := al_form hv
  unfold maxLen at hlg hlh
  obtain ⟨lg, hlg'⟩ : ∃ n, a.got.length = n := ⟨_, rfl⟩
  obtain ⟨lh, hlh'⟩ : ∃ n, a.held.length = n := ⟨_, rfl⟩
  have HLG := Lib.hid hlg'
  have HLH := Lib.hid hlh'
  rw [hlg', hlh'] at HV
  rw [hlg'] at hlg
  rw [hlh'] at hlh
  rw [hlg', hlh']
  unfold wfL at hi hn
  clear hv hlg' hlh' hwf
  obtain ⟨j0, j1, j2, j3, j4, j5, j6, j7, j8, j9, j10⟩ := it
  unfold itV
  unfold itV at HRI
  change Hid (∀ v W, AlAt W v a → Calls Try.prog 44 #[v, .int .i64 (N : Int)] W fun e w' => e = .returned (.bool (hasA a (N : Int))) ∧ Below W.heap.size W w') at HH
  rw [HHA.out] at HH
  have hlgh : lh = lg := by rw [← HLH.out, ← HLG.out]; exact HPP.out.1
  subst hlgh
  have hNl : N < lh := by rw [← HLH.out]; exact (List.getElem?_eq_some_iff.1 HX.out).1
  obtain ⟨b0, o0, rfl⟩ := held_some HV.out (by rw [HLH.out]; omega)
  obtain ⟨b1, o1, rfl⟩ := got_some HV.out (by rw [HLG.out]; omega)
  have hNi : (0 : Int) ≤ (N : Int) := by omega
  have hNi2 : (N : Int) < (lh : Int) := by omega
  clear hx hg hp hr hri
  obtain ⟨xr, xl⟩ := x
  simp only at hxl
  simp only at hk hn01
  subst hg1
  subst hk
  have HHC := Lib.hid hc
  have HCF := Lib.hid (fun v W hW => bcontains_any (a.got.set N true) false v W hW (by rw [List.length_set]; omega))
  clear hc
  rcases Bool.eq_false_or_eq_true (a.n != 0) with t8 | t8
  · have t9 : (a.n != j5) = false := by rcases hn01 with h | h <;> simp_all
    go_enter Try.func19, Try.ntmps19
    go_wp2_with fail
    have KV := HV
    obtain ⟨W1, hW2⟩ : ∃ X, X = (((w).alloc (.cells #[.int .i64 a.n, .slice (some ⟨b1, o1, none⟩) lh cg, .slice (some ⟨b0, o0, none⟩) lh ch] 26)).alloc (.cells #[.int .i64 4, .string j1, .int .i64 j2, .int .i64 j3, .int .i64 j4, .int .i64 j5, .int .i64 j6, .int .i64 j7, .string j8, .int .i64 j9, .int .i64 j10] 43)).alloc (.cells #[.int .i64 0, .slice none 0 0, .slice none 0 0] 26) := ⟨_, rfl⟩
    rw [← hW2]
    have hb3 : Below w.heap.size w W1 := by rw [hW2]; exact bel_alloc (bel_alloc (bel_alloc (Below.refl _ _) _) _) _
    have Ns := Lib.hid (show W1.heap[w.heap.size]? = some (.cells #[.int .i64 a.n, .slice (some ⟨b1, o1, none⟩) lh cg, .slice (some ⟨b0, o0, none⟩) lh ch] 26 (0, 0)) by rw [hW2]; exact heap_below (heap_at (w) _ (w.heap.size) (by simp)) (bel_alloc (bel_alloc (Below.refl _ _) _) _))
    have Nt := Lib.hid (show W1.heap[w.heap.size + 1]? = some (.cells #[.int .i64 4, .string j1, .int .i64 j2, .int .i64 j3, .int .i64 j4, .int .i64 j5, .int .i64 j6, .int .i64 j7, .string j8, .int .i64 j9, .int .i64 j10] 43 (0, 0)) by rw [hW2]; exact heap_below (heap_at ((w).alloc (.cells #[.int .i64 a.n, .slice (some ⟨b1, o1, none⟩) lh cg, .slice (some ⟨b0, o0, none⟩) lh ch] 26)) _ (w.heap.size + 1) (by simp)) (bel_alloc (Below.refl _ _) _))
    have Nz := Lib.hid (show W1.heap[w.heap.size + 1 + 1]? = some (.cells #[.int .i64 0, .slice none 0 0, .slice none 0 0] 26 (0, 0)) by rw [hW2]; exact heap_at (((w).alloc (.cells #[.int .i64 a.n, .slice (some ⟨b1, o1, none⟩) lh cg, .slice (some ⟨b0, o0, none⟩) lh ch] 26)).alloc (.cells #[.int .i64 4, .string j1, .int .i64 j2, .int .i64 j3, .int .i64 j4, .int .i64 j5, .int .i64 j6, .int .i64 j7, .string j8, .int .i64 j9, .int .i64 j10] 43)) _ (w.heap.size + 1 + 1) (by simp))
    clear hW2
    have Z := Lib.hid (AlAt.below KV.out hb3)
    clear KV
    have KV := Z
    clear Z
    have BB4 := Lib.hid hb3
    clear hb3
    have Bls := Ns
    clear Ns
    have Blt := Nt
    clear Nt
    have Blz := Nz
    clear Nz
    refine (HH.out _ _ KV.out).mono ?_
    rintro e w5 ⟨rfl, hb6⟩
    have Z := Lib.hid (heap_below Bls.out hb6)
    clear Bls
    have Bls := Z
    clear Z
    have Z := Lib.hid (heap_below Blt.out hb6)
    clear Blt
    have Blt := Z
    clear Z
    have Z := Lib.hid (heap_below Blz.out hb6)
    clear Blz
    have Blz := Z
    clear Z
    have Z := Lib.hid (AlAt.below KV.out hb6)
    clear KV
    have KV := Z
    clear Z
    have BB7 := Lib.hid (bThen BB4.out hb6)
    clear hb6
    have zt := blk_lt Blt.out
    have xt0 := cellsAt Blt.out 0
    have xt1 := cellsAt Blt.out 1
    have xt2 := cellsAt Blt.out 2
    have xt3 := cellsAt Blt.out 3
    have xt4 := cellsAt Blt.out 4
    have xt5 := cellsAt Blt.out 5
    have xt6 := cellsAt Blt.out 6
    have xt7 := cellsAt Blt.out 7
    have xt8 := cellsAt Blt.out 8
    have xt9 := cellsAt Blt.out 9
    have xt10 := cellsAt Blt.out 10
    have ft := frozAt Blt.out
    simp at xt0 xt1 xt2 xt3 xt4 xt5 xt6 xt7 xt8 xt9 xt10
    go_wp2_with fail
    refine (HRI.out _).mono ?_
    rintro e w8 ⟨rfl, hb9⟩
    clear zt ft xt0 xt1 xt2 xt3 xt4 xt5 xt6 xt7 xt8 xt9 xt10
    have Z := Lib.hid (heap_below Bls.out hb9)
    clear Bls
    have Bls := Z
    clear Z
    have Z := Lib.hid (heap_below Blt.out hb9)
    clear Blt
    have Blt := Z
    clear Z
    have Z := Lib.hid (heap_below Blz.out hb9)
    clear Blz
    have Blz := Z
    clear Z
    have Z := Lib.hid (AlAt.below KV.out hb9)
    clear KV
    have KV := Z
    clear Z
    have BB10 := Lib.hid (bThen BB7.out hb9)
    clear hb9
    obtain ⟨hbh, ch0, hxa⟩ := held_at KV.out HX.out
    obtain ⟨hbg, cg0⟩ := got_at KV.out HG.out
    simp only at ch0
    have RX := Lib.hid hxa
    obtain ⟨⟨Ax, cx, hxe, -, -⟩, -, -⟩ := RX.out
    simp only at hxe
    subst hxe
    have zs := blk_lt Bls.out
    have xs0 := cellsAt Bls.out 0
    have xs1 := cellsAt Bls.out 1
    have xs2 := cellsAt Bls.out 2
    have fs := frozAt Bls.out
    simp at xs0 xs1 xs2
    have zt := blk_lt Blt.out
    have xt0 := cellsAt Blt.out 0
    have xt1 := cellsAt Blt.out 1
    have xt2 := cellsAt Blt.out 2
    have xt3 := cellsAt Blt.out 3
    have xt4 := cellsAt Blt.out 4
    have xt5 := cellsAt Blt.out 5
    have xt6 := cellsAt Blt.out 6
    have xt7 := cellsAt Blt.out 7
    have xt8 := cellsAt Blt.out 8
    have xt9 := cellsAt Blt.out 9
    have xt10 := cellsAt Blt.out 10
    have ft := frozAt Blt.out
    simp at xt0 xt1 xt2 xt3 xt4 xt5 xt6 xt7 xt8 xt9 xt10
    have zz := blk_lt Blz.out
    have xz0 := cellsAt Blz.out 0
    have xz1 := cellsAt Blz.out 1
    have xz2 := cellsAt Blz.out 2
    have fz := frozAt Blz.out
    simp at xz0 xz1 xz2
    go_wp2_with fail
    have hlew11 := Lib.hid (show w.heap.size + 1 + 1 + 1 ≤ w8.heap.size by have := blk_lt Blz.out; omega)
    refine (HOW.out _ _ KV.out).mono ?_
    rintro e w11 ⟨p, Ap, cp, Aq, cq, rfl, hp, hbp, hog, hoh, hhl, hb12⟩
    clear zs fs xs0 xs1 xs2 zt ft xt0 xt1 xt2 xt3 xt4 xt5 xt6 xt7 xt8 xt9 xt10 zz fz xz0 xz1 xz2
    have Z := Lib.hid (heap_below Bls.out hb12)
    clear Bls
    have Bls := Z
    clear Z
    have Z := Lib.hid (heap_below Blt.out hb12)
    clear Blt
    have Blt := Z
    clear Z
    have Z := Lib.hid (heap_below Blz.out hb12)
    clear Blz
    have Blz := Z
    clear Z
    have Z := Lib.hid (AlAt.below KV.out hb12)
    clear KV
    have KV := Z
    clear Z
    have Z := Lib.hid (RowI.below RX.out hb12)
    clear RX
    have RX := Z
    clear Z
    have BB13 := Lib.hid (bThen BB10.out hb12)
    clear hb12
    rw [HLG.out] at hbp hog
    rw [HLH.out] at hbp hoh
    have hp3 : w.heap.size + 1 + 1 + 1 ≤ p := Nat.le_trans hlew11.out hp
    have Blp := Lib.hid hbp
    have OG := Lib.hid (own_base hog hlew11.out)
    have OH := Lib.hid (own_base hoh hlew11.out)
    clear hbp hog hoh hhl hp
    have zs := blk_lt Bls.out
    have xs0 := cellsAt Bls.out 0
    have xs1 := cellsAt Bls.out 1
    have xs2 := cellsAt Bls.out 2
    have fs := frozAt Bls.out
    simp at xs0 xs1 xs2
    have zt := blk_lt Blt.out
    have xt0 := cellsAt Blt.out 0
    have xt1 := cellsAt Blt.out 1
    have xt2 := cellsAt Blt.out 2
    have xt3 := cellsAt Blt.out 3
    have xt4 := cellsAt Blt.out 4
    have xt5 := cellsAt Blt.out 5
    have xt6 := cellsAt Blt.out 6
    have xt7 := cellsAt Blt.out 7
    have xt8 := cellsAt Blt.out 8
    have xt9 := cellsAt Blt.out 9
    have xt10 := cellsAt Blt.out 10
    have ft := frozAt Blt.out
    simp at xt0 xt1 xt2 xt3 xt4 xt5 xt6 xt7 xt8 xt9 xt10
    have zz := blk_lt Blz.out
    have xz0 := cellsAt Blz.out 0
    have xz1 := cellsAt Blz.out 1
    have xz2 := cellsAt Blz.out 2
    have fz := frozAt Blz.out
    simp at xz0 xz1 xz2
    have zp := blk_lt Blp.out
    have xp0 := cellsAt Blp.out 0
    have xp1 := cellsAt Blp.out 1
    have xp2 := cellsAt Blp.out 2
    have fp := frozAt Blp.out
    simp at xp0 xp1 xp2
    obtain ⟨kg, cg1, eg, hkg, hkgl, -⟩ := own_form OG.out (by omega)
    injection eg with eg1 _ eg2
    subst eg1 eg2
    obtain ⟨kh, ch1, eh, hkh, hkhl, -⟩ := own_form OH.out (by omega)
    injection eh with eh1 _ eh2
    subst eh1 eh2
    have xg := (OG.out.cellAt N (by omega)).trans (show _ = some (Value.bool _) by simpa using flat_at bCs_len HG.out (j := 0) rfl)
    have xh := (OH.out.cellAt N (by omega)).trans (show _ = some (Value.slice Ax xl.length cx) by simpa using flat_at Hl.cs_len HX.out (j := 0) rfl)
    clear zs fs xs0 xs1 xs2 zt ft xt0 xt1 xt2 xt3 xt4 xt5 xt6 xt7 xt8 xt9 xt10 zz fz xz0 xz1 xz2 zp fp xp0 xp1 xp2
    have zs := blk_lt Bls.out
    have xs0 := cellsAt Bls.out 0
    have xs1 := cellsAt Bls.out 1
    have xs2 := cellsAt Bls.out 2
    have fs := frozAt Bls.out
    simp at xs0 xs1 xs2
    have zt := blk_lt Blt.out
    have xt0 := cellsAt Blt.out 0
    have xt1 := cellsAt Blt.out 1
    have xt2 := cellsAt Blt.out 2
    have xt3 := cellsAt Blt.out 3
    have xt4 := cellsAt Blt.out 4
    have xt5 := cellsAt Blt.out 5
    have xt6 := cellsAt Blt.out 6
    have xt7 := cellsAt Blt.out 7
    have xt8 := cellsAt Blt.out 8
    have xt9 := cellsAt Blt.out 9
    have xt10 := cellsAt Blt.out 10
    have ft := frozAt Blt.out
    simp at xt0 xt1 xt2 xt3 xt4 xt5 xt6 xt7 xt8 xt9 xt10
    have zz := blk_lt Blz.out
    have xz0 := cellsAt Blz.out 0
    have xz1 := cellsAt Blz.out 1
    have xz2 := cellsAt Blz.out 2
    have fz := frozAt Blz.out
    simp at xz0 xz1 xz2
    have zp := blk_lt Blp.out
    have xp0 := cellsAt Blp.out 0
    have xp1 := cellsAt Blp.out 1
    have xp2 := cellsAt Blp.out 2
    have fp := frozAt Blp.out
    simp at xp0 xp1 xp2
    go_wp2_with fail
    have hne := own_at_ne OG.out Blp.out (by decide)
    have hne2 := fun e => hne (Eq.symm e)
    have fg := OG.out.frozenAt N
    go_region
    have hkg1 := (OG.out.lt kg rfl).1
    have hNg : N < a.got.length := by rw [HLG.out]; omega
    have P1 := (Below.heap_setCell (w11.setCell ⟨p, 0, none⟩ (.int .i64 j5)) ⟨kg, N, none⟩ (.bool true) p hne2).trans (blk_set Blp.out 0 (.int .i64 j5))
    have P2 := (Below.heap_setCell (w11.setCell ⟨p, 0, none⟩ (.int .i64 j5)) ⟨kg, N, none⟩ (.bool true) (w.heap.size + 1 + 1) (by show _ ≠ kg; omega)).trans ((Below.heap_setCell w11 ⟨p, 0, none⟩ (.int .i64 j5) (w.heap.size + 1 + 1) (by show _ ≠ p; omega)).trans Blz.out)
    have P3 := (Below.heap_setCell (w11.setCell ⟨p, 0, none⟩ (.int .i64 j5)) ⟨kg, N, none⟩ (.bool true) (w.heap.size + 1) (by show _ ≠ kg; omega)).trans ((Below.heap_setCell w11 ⟨p, 0, none⟩ (.int .i64 j5) (w.heap.size + 1) (by show _ ≠ p; omega)).trans Blt.out)
    have BS := Lib.hid (Below.drew ((BB13.out.setCell (p := ⟨p, 0, none⟩) (show w.heap.size ≤ p by omega) (.int .i64 j5)).setCell (p := ⟨kg, N, none⟩) (show w.heap.size ≤ kg by omega) (.bool true)))
    have OG6 := Lib.hid (World.ownsRow.drew (own_got (own_away OG.out (g := p) (.inr (by simp [Value.ownBlock]; exact hne)) 0 (.int .i64 j5)) hNg true))
    have hneh := own_at_ne OH.out Blp.out (by decide)
    have OH6 := Lib.hid (World.ownsRow.drew (own_away (own_away OH.out (g := p) (.inr (by simp [Value.ownBlock]; exact hneh)) 0 (.int .i64 j5)) (g := kg) (own_ne OH.out OG.out (by decide)) N (.bool true)))
    clear zs fs xs0 xs1 xs2 zt ft xt0 xt1 xt2 xt3 xt4 xt5 xt6 xt7 xt8 xt9 xt10 zz fz xz0 xz1 xz2 zp fp xp0 xp1 xp2
    simp at P1
    clear KV RX Bls Blt Blz Blp OG OH hne hne2 hneh fg xg xh
    obtain ⟨W6, hW6⟩ : ∃ W6, W6 = ((w11.setCell ⟨p, 0, none⟩ (.int .i64 j5)).setCell ⟨kg, N, none⟩ (.bool true)).drew := ⟨_, rfl⟩
    change ((w11.setCell ⟨p, 0, none⟩ (.int .i64 j5)).setCell ⟨kg, N, none⟩ (.bool true)).drew.heap[p]? = _ at P1
    change ((w11.setCell ⟨p, 0, none⟩ (.int .i64 j5)).setCell ⟨kg, N, none⟩ (.bool true)).drew.heap[w.heap.size + 1 + 1]? = _ at P2
    change ((w11.setCell ⟨p, 0, none⟩ (.int .i64 j5)).setCell ⟨kg, N, none⟩ (.bool true)).drew.heap[w.heap.size + 1]? = _ at P3
    rw [← hW6] at BS OG6 OH6 P1 P2 P3 ⊢
    have Blp := Lib.hid P1
    have Blz := Lib.hid P2
    have Blt := Lib.hid P3
    have OG := OG6
    have OH := OH6
    clear hW6 P1 P2 P3 OG6 OH6
    have zp := blk_lt Blp.out
    have xp0 := cellsAt Blp.out 0
    have xp1 := cellsAt Blp.out 1
    have xp2 := cellsAt Blp.out 2
    have fp := frozAt Blp.out
    simp at xp0 xp1 xp2
    have zz := blk_lt Blz.out
    have xz0 := cellsAt Blz.out 0
    have xz1 := cellsAt Blz.out 1
    have xz2 := cellsAt Blz.out 2
    have fz := frozAt Blz.out
    simp at xz0 xz1 xz2
    have zt := blk_lt Blt.out
    have xt0 := cellsAt Blt.out 0
    have xt1 := cellsAt Blt.out 1
    have xt2 := cellsAt Blt.out 2
    have xt3 := cellsAt Blt.out 3
    have xt4 := cellsAt Blt.out 4
    have xt5 := cellsAt Blt.out 5
    have xt6 := cellsAt Blt.out 6
    have xt7 := cellsAt Blt.out 7
    have xt8 := cellsAt Blt.out 8
    have xt9 := cellsAt Blt.out 9
    have xt10 := cellsAt Blt.out 10
    have ft := frozAt Blt.out
    simp at xt0 xt1 xt2 xt3 xt4 xt5 xt6 xt7 xt8 xt9 xt10
    go_wp2_with fail
    refine (HCF.out _ _ (Row.of_own bCs_len OG.out (by rw [List.length_set, HLG.out]))).mono ?_
    rintro e wq ⟨rfl, nq, rfl⟩
    rw [HHC.out]
    obtain ⟨W14, hW15⟩ : ∃ X, X = W6.drewN nq := ⟨_, rfl⟩
    rw [← hW15]
    have hb16 : Below W6.heap.size W6 W14 := by rw [hW15]; exact bDrewN (Below.refl _ _)
    clear hW15
    clear zp fp xp0 xp1 xp2 zz fz xz0 xz1 xz2 zt ft xt0 xt1 xt2 xt3 xt4 xt5 xt6 xt7 xt8 xt9 xt10
    have Z := Lib.hid (heap_below Blt.out hb16)
    clear Blt
    have Blt := Z
    clear Z
    have Z := Lib.hid (heap_below Blz.out hb16)
    clear Blz
    have Blz := Z
    clear Z
    have Z := Lib.hid (heap_below Blp.out hb16)
    clear Blp
    have Blp := Z
    clear Z
    have Z := Lib.hid (own_below OG.out hb16)
    clear OG
    have OG := Z
    clear Z
    have Z := Lib.hid (own_below OH.out hb16)
    clear OH
    have OH := Z
    clear Z
    have BB17 := Lib.hid (bThen BS.out hb16)
    clear hb16
    have zp := blk_lt Blp.out
    have xp0 := cellsAt Blp.out 0
    have xp1 := cellsAt Blp.out 1
    have xp2 := cellsAt Blp.out 2
    have fp := frozAt Blp.out
    simp at xp0 xp1 xp2
    have zz := blk_lt Blz.out
    have xz0 := cellsAt Blz.out 0
    have xz1 := cellsAt Blz.out 1
    have xz2 := cellsAt Blz.out 2
    have fz := frozAt Blz.out
    simp at xz0 xz1 xz2
    go_wp2_with fail
    have hge2 : w.heap.size ≤ w.heap.size + 1 + 1 := by omega
    have hgl2 : w.heap.size + 1 + 1 < w.heap.size + 1 + 1 + 1 := by omega
    have E := blk_set (blk_set (blk_set Blz.out 0 (.int .i64 j5)) 1 (.slice (some ⟨kg, 0, none⟩) lh cp)) 2 (.slice (some ⟨kh, 0, none⟩) lh cq)
    simp at E
    have BE := Lib.hid (((BB17.out.setCell (p := ⟨w.heap.size + 1 + 1, 0, none⟩) hge2 (.int .i64 j5)).setCell (p := ⟨w.heap.size + 1 + 1, 1, none⟩) hge2 (.slice (some ⟨kg, 0, none⟩) lh cp)).setCell (p := ⟨w.heap.size + 1 + 1, 2, none⟩) hge2 (.slice (some ⟨kh, 0, none⟩) lh cq))
    have OH9 := Lib.hid (own_set (own_set (own_set OH.out (p := ⟨w.heap.size + 1 + 1, 0, none⟩) hgl2 (.int .i64 j5)) (p := ⟨w.heap.size + 1 + 1, 1, none⟩) hgl2 (.slice (some ⟨kg, 0, none⟩) lh cp)) (p := ⟨w.heap.size + 1 + 1, 2, none⟩) hgl2 (.slice (some ⟨kh, 0, none⟩) lh cq))
    have OG9 := Lib.hid (own_set (own_set (own_set OG.out (p := ⟨w.heap.size + 1 + 1, 0, none⟩) hgl2 (.int .i64 j5)) (p := ⟨w.heap.size + 1 + 1, 1, none⟩) hgl2 (.slice (some ⟨kg, 0, none⟩) lh cp)) (p := ⟨w.heap.size + 1 + 1, 2, none⟩) hgl2 (.slice (some ⟨kh, 0, none⟩) lh cq))
    clear zp fp xp0 xp1 xp2 zz fz xz0 xz1 xz2
    clear Blz OH OG
    generalize ((W14.setCell ⟨w.heap.size + 1 + 1, 0, none⟩ (.int .i64 j5)).setCell ⟨w.heap.size + 1 + 1, 1, none⟩ (.slice (some ⟨kg, 0, none⟩) lh cp)).setCell ⟨w.heap.size + 1 + 1, 2, none⟩ (.slice (some ⟨kh, 0, none⟩) lh cq) = W9 at *
    have e0 := cellsAt E 0
    have e1 := cellsAt E 1
    have e2 := cellsAt E 2
    simp at e0 e1 e2
    refine bodyPost_ret (v := .tuple #[.agg #[.int .i64 j5, .slice (some ⟨kg, 0, none⟩) lh cp, .slice (some ⟨kh, 0, none⟩) lh cq], .bool false, .int .i64 0, .slice none 0 0, .int .i64 0]) (by simp [results, Try.results19, go_sem, e0, e1, e2]) rfl ?_
    obtain ⟨_, _, -, hwn, -, -, hX5, -⟩ := HV.out.below BE.out
    have hR1 : Row bCs 1 W9 (.slice (some ⟨kg, 0, none⟩) lh cp) (a.got.set N true) := Row.of_own bCs_len OG9.out (by rw [List.length_set, HLG.out])
    have hR2 : Row Hl.cs 1 W9 (.slice (some ⟨kh, 0, none⟩) lh cq) a.held := Row.of_own Hl.cs_len OH9.out (by rw [HLH.out])
    exact ⟨⟨_, rfl, ⟨_, _, rfl, HWF.out.2.2.2.2.2.1, ⟨hR1, by rw [List.length_set, HLG.out]; unfold maxLen; omega⟩, hR2, hX5, by rw [HLH.out]; unfold maxLen; omega⟩, _, _, kh, 0, _, _, rfl, by omega, fun k hk => by have := (OG9.out.lt k hk).1; omega⟩, BE.out⟩
  · skip
    go_enter Try.func19, Try.ntmps19
    go_wp2_with fail
    have KV := HV
    obtain ⟨W1, hW2⟩ : ∃ X, X = (((w).alloc (.cells #[.int .i64 a.n, .slice (some ⟨b1, o1, none⟩) lh cg, .slice (some ⟨b0, o0, none⟩) lh ch] 26)).alloc (.cells #[.int .i64 4, .string j1, .int .i64 j2, .int .i64 j3, .int .i64 j4, .int .i64 j5, .int .i64 j6, .int .i64 j7, .string j8, .int .i64 j9, .int .i64 j10] 43)).alloc (.cells #[.int .i64 0, .slice none 0 0, .slice none 0 0] 26) := ⟨_, rfl⟩
    rw [← hW2]
    have hb3 : Below w.heap.size w W1 := by rw [hW2]; exact bel_alloc (bel_alloc (bel_alloc (Below.refl _ _) _) _) _
    have Ns := Lib.hid (show W1.heap[w.heap.size]? = some (.cells #[.int .i64 a.n, .slice (some ⟨b1, o1, none⟩) lh cg, .slice (some ⟨b0, o0, none⟩) lh ch] 26 (0, 0)) by rw [hW2]; exact heap_below (heap_at (w) _ (w.heap.size) (by simp)) (bel_alloc (bel_alloc (Below.refl _ _) _) _))
    have Nt := Lib.hid (show W1.heap[w.heap.size + 1]? = some (.cells #[.int .i64 4, .string j1, .int .i64 j2, .int .i64 j3, .int .i64 j4, .int .i64 j5, .int .i64 j6, .int .i64 j7, .string j8, .int .i64 j9, .int .i64 j10] 43 (0, 0)) by rw [hW2]; exact heap_below (heap_at ((w).alloc (.cells #[.int .i64 a.n, .slice (some ⟨b1, o1, none⟩) lh cg, .slice (some ⟨b0, o0, none⟩) lh ch] 26)) _ (w.heap.size + 1) (by simp)) (bel_alloc (Below.refl _ _) _))
    have Nz := Lib.hid (show W1.heap[w.heap.size + 1 + 1]? = some (.cells #[.int .i64 0, .slice none 0 0, .slice none 0 0] 26 (0, 0)) by rw [hW2]; exact heap_at (((w).alloc (.cells #[.int .i64 a.n, .slice (some ⟨b1, o1, none⟩) lh cg, .slice (some ⟨b0, o0, none⟩) lh ch] 26)).alloc (.cells #[.int .i64 4, .string j1, .int .i64 j2, .int .i64 j3, .int .i64 j4, .int .i64 j5, .int .i64 j6, .int .i64 j7, .string j8, .int .i64 j9, .int .i64 j10] 43)) _ (w.heap.size + 1 + 1) (by simp))
    clear hW2
    have Z := Lib.hid (AlAt.below KV.out hb3)
    clear KV
    have KV := Z
    clear Z
    have BB4 := Lib.hid hb3
    clear hb3
    have Bls := Ns
    clear Ns
    have Blt := Nt
    clear Nt
    have Blz := Nz
    clear Nz
    refine (HH.out _ _ KV.out).mono ?_
    rintro e w5 ⟨rfl, hb6⟩
    have Z := Lib.hid (heap_below Bls.out hb6)
    clear Bls
    have Bls := Z
    clear Z
    have Z := Lib.hid (heap_below Blt.out hb6)
    clear Blt
    have Blt := Z
    clear Z
    have Z := Lib.hid (heap_below Blz.out hb6)
    clear Blz
    have Blz := Z
    clear Z
    have Z := Lib.hid (AlAt.below KV.out hb6)
    clear KV
    have KV := Z
    clear Z
    have BB7 := Lib.hid (bThen BB4.out hb6)
    clear hb6
    have zt := blk_lt Blt.out
    have xt0 := cellsAt Blt.out 0
    have xt1 := cellsAt Blt.out 1
    have xt2 := cellsAt Blt.out 2
    have xt3 := cellsAt Blt.out 3
    have xt4 := cellsAt Blt.out 4
    have xt5 := cellsAt Blt.out 5
    have xt6 := cellsAt Blt.out 6
    have xt7 := cellsAt Blt.out 7
    have xt8 := cellsAt Blt.out 8
    have xt9 := cellsAt Blt.out 9
    have xt10 := cellsAt Blt.out 10
    have ft := frozAt Blt.out
    simp at xt0 xt1 xt2 xt3 xt4 xt5 xt6 xt7 xt8 xt9 xt10
    go_wp2_with fail
    refine (HRI.out _).mono ?_
    rintro e w8 ⟨rfl, hb9⟩
    clear zt ft xt0 xt1 xt2 xt3 xt4 xt5 xt6 xt7 xt8 xt9 xt10
    have Z := Lib.hid (heap_below Bls.out hb9)
    clear Bls
    have Bls := Z
    clear Z
    have Z := Lib.hid (heap_below Blt.out hb9)
    clear Blt
    have Blt := Z
    clear Z
    have Z := Lib.hid (heap_below Blz.out hb9)
    clear Blz
    have Blz := Z
    clear Z
    have Z := Lib.hid (AlAt.below KV.out hb9)
    clear KV
    have KV := Z
    clear Z
    have BB10 := Lib.hid (bThen BB7.out hb9)
    clear hb9
    obtain ⟨hbh, ch0, hxa⟩ := held_at KV.out HX.out
    obtain ⟨hbg, cg0⟩ := got_at KV.out HG.out
    simp only at ch0
    have RX := Lib.hid hxa
    obtain ⟨⟨Ax, cx, hxe, -, -⟩, -, -⟩ := RX.out
    simp only at hxe
    subst hxe
    have zs := blk_lt Bls.out
    have xs0 := cellsAt Bls.out 0
    have xs1 := cellsAt Bls.out 1
    have xs2 := cellsAt Bls.out 2
    have fs := frozAt Bls.out
    simp at xs0 xs1 xs2
    have zt := blk_lt Blt.out
    have xt0 := cellsAt Blt.out 0
    have xt1 := cellsAt Blt.out 1
    have xt2 := cellsAt Blt.out 2
    have xt3 := cellsAt Blt.out 3
    have xt4 := cellsAt Blt.out 4
    have xt5 := cellsAt Blt.out 5
    have xt6 := cellsAt Blt.out 6
    have xt7 := cellsAt Blt.out 7
    have xt8 := cellsAt Blt.out 8
    have xt9 := cellsAt Blt.out 9
    have xt10 := cellsAt Blt.out 10
    have ft := frozAt Blt.out
    simp at xt0 xt1 xt2 xt3 xt4 xt5 xt6 xt7 xt8 xt9 xt10
    have zz := blk_lt Blz.out
    have xz0 := cellsAt Blz.out 0
    have xz1 := cellsAt Blz.out 1
    have xz2 := cellsAt Blz.out 2
    have fz := frozAt Blz.out
    simp at xz0 xz1 xz2
    go_wp2_with fail
    have hlew11 := Lib.hid (show w.heap.size + 1 + 1 + 1 ≤ w8.heap.size by have := blk_lt Blz.out; omega)
    refine (HOW.out _ _ KV.out).mono ?_
    rintro e w11 ⟨p, Ap, cp, Aq, cq, rfl, hp, hbp, hog, hoh, hhl, hb12⟩
    clear zs fs xs0 xs1 xs2 zt ft xt0 xt1 xt2 xt3 xt4 xt5 xt6 xt7 xt8 xt9 xt10 zz fz xz0 xz1 xz2
    have Z := Lib.hid (heap_below Bls.out hb12)
    clear Bls
    have Bls := Z
    clear Z
    have Z := Lib.hid (heap_below Blt.out hb12)
    clear Blt
    have Blt := Z
    clear Z
    have Z := Lib.hid (heap_below Blz.out hb12)
    clear Blz
    have Blz := Z
    clear Z
    have Z := Lib.hid (AlAt.below KV.out hb12)
    clear KV
    have KV := Z
    clear Z
    have Z := Lib.hid (RowI.below RX.out hb12)
    clear RX
    have RX := Z
    clear Z
    have BB13 := Lib.hid (bThen BB10.out hb12)
    clear hb12
    rw [HLG.out] at hbp hog
    rw [HLH.out] at hbp hoh
    have hp3 : w.heap.size + 1 + 1 + 1 ≤ p := Nat.le_trans hlew11.out hp
    have Blp := Lib.hid hbp
    have OG := Lib.hid (own_base hog hlew11.out)
    have OH := Lib.hid (own_base hoh hlew11.out)
    clear hbp hog hoh hhl hp
    have zs := blk_lt Bls.out
    have xs0 := cellsAt Bls.out 0
    have xs1 := cellsAt Bls.out 1
    have xs2 := cellsAt Bls.out 2
    have fs := frozAt Bls.out
    simp at xs0 xs1 xs2
    have zt := blk_lt Blt.out
    have xt0 := cellsAt Blt.out 0
    have xt1 := cellsAt Blt.out 1
    have xt2 := cellsAt Blt.out 2
    have xt3 := cellsAt Blt.out 3
    have xt4 := cellsAt Blt.out 4
    have xt5 := cellsAt Blt.out 5
    have xt6 := cellsAt Blt.out 6
    have xt7 := cellsAt Blt.out 7
    have xt8 := cellsAt Blt.out 8
    have xt9 := cellsAt Blt.out 9
    have xt10 := cellsAt Blt.out 10
    have ft := frozAt Blt.out
    simp at xt0 xt1 xt2 xt3 xt4 xt5 xt6 xt7 xt8 xt9 xt10
    have zz := blk_lt Blz.out
    have xz0 := cellsAt Blz.out 0
    have xz1 := cellsAt Blz.out 1
    have xz2 := cellsAt Blz.out 2
    have fz := frozAt Blz.out
    simp at xz0 xz1 xz2
    have zp := blk_lt Blp.out
    have xp0 := cellsAt Blp.out 0
    have xp1 := cellsAt Blp.out 1
    have xp2 := cellsAt Blp.out 2
    have fp := frozAt Blp.out
    simp at xp0 xp1 xp2
    obtain ⟨kg, cg1, eg, hkg, hkgl, -⟩ := own_form OG.out (by omega)
    injection eg with eg1 _ eg2
    subst eg1 eg2
    obtain ⟨kh, ch1, eh, hkh, hkhl, -⟩ := own_form OH.out (by omega)
    injection eh with eh1 _ eh2
    subst eh1 eh2
    have xg := (OG.out.cellAt N (by omega)).trans (show _ = some (Value.bool _) by simpa using flat_at bCs_len HG.out (j := 0) rfl)
    have xh := (OH.out.cellAt N (by omega)).trans (show _ = some (Value.slice Ax xl.length cx) by simpa using flat_at Hl.cs_len HX.out (j := 0) rfl)
    clear zs fs xs0 xs1 xs2 zt ft xt0 xt1 xt2 xt3 xt4 xt5 xt6 xt7 xt8 xt9 xt10 zz fz xz0 xz1 xz2 zp fp xp0 xp1 xp2
    have zs := blk_lt Bls.out
    have xs0 := cellsAt Bls.out 0
    have xs1 := cellsAt Bls.out 1
    have xs2 := cellsAt Bls.out 2
    have fs := frozAt Bls.out
    simp at xs0 xs1 xs2
    have zt := blk_lt Blt.out
    have xt0 := cellsAt Blt.out 0
    have xt1 := cellsAt Blt.out 1
    have xt2 := cellsAt Blt.out 2
    have xt3 := cellsAt Blt.out 3
    have xt4 := cellsAt Blt.out 4
    have xt5 := cellsAt Blt.out 5
    have xt6 := cellsAt Blt.out 6
    have xt7 := cellsAt Blt.out 7
    have xt8 := cellsAt Blt.out 8
    have xt9 := cellsAt Blt.out 9
    have xt10 := cellsAt Blt.out 10
    have ft := frozAt Blt.out
    simp at xt0 xt1 xt2 xt3 xt4 xt5 xt6 xt7 xt8 xt9 xt10
    have zz := blk_lt Blz.out
    have xz0 := cellsAt Blz.out 0
    have xz1 := cellsAt Blz.out 1
    have xz2 := cellsAt Blz.out 2
    have fz := frozAt Blz.out
    simp at xz0 xz1 xz2
    have zp := blk_lt Blp.out
    have xp0 := cellsAt Blp.out 0
    have xp1 := cellsAt Blp.out 1
    have xp2 := cellsAt Blp.out 2
    have fp := frozAt Blp.out
    simp at xp0 xp1 xp2
    go_wp2_with fail
    have hne := own_at_ne OG.out Blp.out (by decide)
    have hne2 := fun e => hne (Eq.symm e)
    have fg := OG.out.frozenAt N
    go_region
    have hkg1 := (OG.out.lt kg rfl).1
    have hNg : N < a.got.length := by rw [HLG.out]; omega
    have P1 := (Below.heap_setCell (w11.setCell ⟨p, 0, none⟩ (.int .i64 j5)) ⟨kg, N, none⟩ (.bool true) p hne2).trans (blk_set Blp.out 0 (.int .i64 j5))
    have P2 := (Below.heap_setCell (w11.setCell ⟨p, 0, none⟩ (.int .i64 j5)) ⟨kg, N, none⟩ (.bool true) (w.heap.size + 1 + 1) (by show _ ≠ kg; omega)).trans ((Below.heap_setCell w11 ⟨p, 0, none⟩ (.int .i64 j5) (w.heap.size + 1 + 1) (by show _ ≠ p; omega)).trans Blz.out)
    have P3 := (Below.heap_setCell (w11.setCell ⟨p, 0, none⟩ (.int .i64 j5)) ⟨kg, N, none⟩ (.bool true) (w.heap.size + 1) (by show _ ≠ kg; omega)).trans ((Below.heap_setCell w11 ⟨p, 0, none⟩ (.int .i64 j5) (w.heap.size + 1) (by show _ ≠ p; omega)).trans Blt.out)
    have BS := Lib.hid (Below.drew ((BB13.out.setCell (p := ⟨p, 0, none⟩) (show w.heap.size ≤ p by omega) (.int .i64 j5)).setCell (p := ⟨kg, N, none⟩) (show w.heap.size ≤ kg by omega) (.bool true)))
    have OG6 := Lib.hid (World.ownsRow.drew (own_got (own_away OG.out (g := p) (.inr (by simp [Value.ownBlock]; exact hne)) 0 (.int .i64 j5)) hNg true))
    have hneh := own_at_ne OH.out Blp.out (by decide)
    have OH6 := Lib.hid (World.ownsRow.drew (own_away (own_away OH.out (g := p) (.inr (by simp [Value.ownBlock]; exact hneh)) 0 (.int .i64 j5)) (g := kg) (own_ne OH.out OG.out (by decide)) N (.bool true)))
    clear zs fs xs0 xs1 xs2 zt ft xt0 xt1 xt2 xt3 xt4 xt5 xt6 xt7 xt8 xt9 xt10 zz fz xz0 xz1 xz2 zp fp xp0 xp1 xp2
    simp at P1
    clear KV RX Bls Blt Blz Blp OG OH hne hne2 hneh fg xg xh
    obtain ⟨W6, hW6⟩ : ∃ W6, W6 = ((w11.setCell ⟨p, 0, none⟩ (.int .i64 j5)).setCell ⟨kg, N, none⟩ (.bool true)).drew := ⟨_, rfl⟩
    change ((w11.setCell ⟨p, 0, none⟩ (.int .i64 j5)).setCell ⟨kg, N, none⟩ (.bool true)).drew.heap[p]? = _ at P1
    change ((w11.setCell ⟨p, 0, none⟩ (.int .i64 j5)).setCell ⟨kg, N, none⟩ (.bool true)).drew.heap[w.heap.size + 1 + 1]? = _ at P2
    change ((w11.setCell ⟨p, 0, none⟩ (.int .i64 j5)).setCell ⟨kg, N, none⟩ (.bool true)).drew.heap[w.heap.size + 1]? = _ at P3
    rw [← hW6] at BS OG6 OH6 P1 P2 P3 ⊢
    have Blp := Lib.hid P1
    have Blz := Lib.hid P2
    have Blt := Lib.hid P3
    have OG := OG6
    have OH := OH6
    clear hW6 P1 P2 P3 OG6 OH6
    have zp := blk_lt Blp.out
    have xp0 := cellsAt Blp.out 0
    have xp1 := cellsAt Blp.out 1
    have xp2 := cellsAt Blp.out 2
    have fp := frozAt Blp.out
    simp at xp0 xp1 xp2
    have zz := blk_lt Blz.out
    have xz0 := cellsAt Blz.out 0
    have xz1 := cellsAt Blz.out 1
    have xz2 := cellsAt Blz.out 2
    have fz := frozAt Blz.out
    simp at xz0 xz1 xz2
    have zt := blk_lt Blt.out
    have xt0 := cellsAt Blt.out 0
    have xt1 := cellsAt Blt.out 1
    have xt2 := cellsAt Blt.out 2
    have xt3 := cellsAt Blt.out 3
    have xt4 := cellsAt Blt.out 4
    have xt5 := cellsAt Blt.out 5
    have xt6 := cellsAt Blt.out 6
    have xt7 := cellsAt Blt.out 7
    have xt8 := cellsAt Blt.out 8
    have xt9 := cellsAt Blt.out 9
    have xt10 := cellsAt Blt.out 10
    have ft := frozAt Blt.out
    simp at xt0 xt1 xt2 xt3 xt4 xt5 xt6 xt7 xt8 xt9 xt10
    go_wp2_with fail
    refine (HCF.out _ _ (Row.of_own bCs_len OG.out (by rw [List.length_set, HLG.out]))).mono ?_
    rintro e wq ⟨rfl, nq, rfl⟩
    rw [HHC.out]
    obtain ⟨W14, hW15⟩ : ∃ X, X = W6.drewN nq := ⟨_, rfl⟩
    rw [← hW15]
    have hb16 : Below W6.heap.size W6 W14 := by rw [hW15]; exact bDrewN (Below.refl _ _)
    clear hW15
    clear zp fp xp0 xp1 xp2 zz fz xz0 xz1 xz2 zt ft xt0 xt1 xt2 xt3 xt4 xt5 xt6 xt7 xt8 xt9 xt10
    have Z := Lib.hid (heap_below Blt.out hb16)
    clear Blt
    have Blt := Z
    clear Z
    have Z := Lib.hid (heap_below Blz.out hb16)
    clear Blz
    have Blz := Z
    clear Z
    have Z := Lib.hid (heap_below Blp.out hb16)
    clear Blp
    have Blp := Z
    clear Z
    have Z := Lib.hid (own_below OG.out hb16)
    clear OG
    have OG := Z
    clear Z
    have Z := Lib.hid (own_below OH.out hb16)
    clear OH
    have OH := Z
    clear Z
    have BB17 := Lib.hid (bThen BS.out hb16)
    clear hb16
    have zp := blk_lt Blp.out
    have xp0 := cellsAt Blp.out 0
    have xp1 := cellsAt Blp.out 1
    have xp2 := cellsAt Blp.out 2
    have fp := frozAt Blp.out
    simp at xp0 xp1 xp2
    have zz := blk_lt Blz.out
    have xz0 := cellsAt Blz.out 0
    have xz1 := cellsAt Blz.out 1
    have xz2 := cellsAt Blz.out 2
    have fz := frozAt Blz.out
    simp at xz0 xz1 xz2
    go_wp2_with fail
    have hge2 : w.heap.size ≤ w.heap.size + 1 + 1 := by omega
    have hgl2 : w.heap.size + 1 + 1 < w.heap.size + 1 + 1 + 1 := by omega
    have E := blk_set (blk_set (blk_set Blz.out 0 (.int .i64 j5)) 1 (.slice (some ⟨kg, 0, none⟩) lh cp)) 2 (.slice (some ⟨kh, 0, none⟩) lh cq)
    simp at E
    have BE := Lib.hid (((BB17.out.setCell (p := ⟨w.heap.size + 1 + 1, 0, none⟩) hge2 (.int .i64 j5)).setCell (p := ⟨w.heap.size + 1 + 1, 1, none⟩) hge2 (.slice (some ⟨kg, 0, none⟩) lh cp)).setCell (p := ⟨w.heap.size + 1 + 1, 2, none⟩) hge2 (.slice (some ⟨kh, 0, none⟩) lh cq))
    have OH9 := Lib.hid (own_set (own_set (own_set OH.out (p := ⟨w.heap.size + 1 + 1, 0, none⟩) hgl2 (.int .i64 j5)) (p := ⟨w.heap.size + 1 + 1, 1, none⟩) hgl2 (.slice (some ⟨kg, 0, none⟩) lh cp)) (p := ⟨w.heap.size + 1 + 1, 2, none⟩) hgl2 (.slice (some ⟨kh, 0, none⟩) lh cq))
    have OG9 := Lib.hid (own_set (own_set (own_set OG.out (p := ⟨w.heap.size + 1 + 1, 0, none⟩) hgl2 (.int .i64 j5)) (p := ⟨w.heap.size + 1 + 1, 1, none⟩) hgl2 (.slice (some ⟨kg, 0, none⟩) lh cp)) (p := ⟨w.heap.size + 1 + 1, 2, none⟩) hgl2 (.slice (some ⟨kh, 0, none⟩) lh cq))
    clear zp fp xp0 xp1 xp2 zz fz xz0 xz1 xz2
    clear Blz OH OG
    generalize ((W14.setCell ⟨w.heap.size + 1 + 1, 0, none⟩ (.int .i64 j5)).setCell ⟨w.heap.size + 1 + 1, 1, none⟩ (.slice (some ⟨kg, 0, none⟩) lh cp)).setCell ⟨w.heap.size + 1 + 1, 2, none⟩ (.slice (some ⟨kh, 0, none⟩) lh cq) = W9 at *
    have e0 := cellsAt E 0
    have e1 := cellsAt E 1
    have e2 := cellsAt E 2
    simp at e0 e1 e2
    refine bodyPost_ret (v := .tuple #[.agg #[.int .i64 j5, .slice (some ⟨kg, 0, none⟩) lh cp, .slice (some ⟨kh, 0, none⟩) lh cq], .bool false, .int .i64 0, .slice none 0 0, .int .i64 0]) (by simp [results, Try.results19, go_sem, e0, e1, e2]) rfl ?_
    obtain ⟨_, _, -, hwn, -, -, hX5, -⟩ := HV.out.below BE.out
    have hR1 : Row bCs 1 W9 (.slice (some ⟨kg, 0, none⟩) lh cp) (a.got.set N true) := Row.of_own bCs_len OG9.out (by rw [List.length_set, HLG.out])
    have hR2 : Row Hl.cs 1 W9 (.slice (some ⟨kh, 0, none⟩) lh cq) a.held := Row.of_own Hl.cs_len OH9.out (by rw [HLH.out])
    exact ⟨⟨_, rfl, ⟨_, _, rfl, HWF.out.2.2.2.2.2.1, ⟨hR1, by rw [List.length_set, HLG.out]; unfold maxLen; omega⟩, hR2, hX5, by rw [HLH.out]; unfold maxLen; omega⟩, _, _, kh, 0, _, _, rfl, by omega, fun k hk => by have := (OG9.out.lt k hk).1; omega⟩, BE.out⟩
end Go.Proofs.Ytenpgkkefielfaa
