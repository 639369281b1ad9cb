/-
  WALKS of layer 18: the program's Offer: what is refused, what passes.
-/
import Derived.Test.YtenpgkkefielfaaAlignW9
set_option linter.unusedVariables false
set_option linter.unusedSimpArgs false
namespace Go.Proofs.Ytenpgkkefielfaa
open Go.RowKit

set_option maxRecDepth 100000 in
theorem ofail_any (e : Int) (w : World) : Calls Try.prog 43 #[.int .i64 e] w fun en w' => en = .returned (.tuple #[zAV, .bool false, .int .i64 0, .slice none 0 0, .int .i64 e]) ∧ Below w.heap.size w w' := by
  unfold zAV
  go_enter Try.func43, Try.ntmps43
  go_wp2_with fail
  exact bodyPost_ret (v := .tuple #[.agg #[.int .i64 0, .slice none 0 0, .slice none 0 0], .bool false, .int .i64 0, .slice none 0 0, .int .i64 e]) (by simp [results, Try.results43, go_sem]) rfl ⟨rfl, bel_alloc (Below.refl _ _) _⟩
/-- The row of what is held lies in a block that is new. -/
def FrH (w : World) (v : Value) : Prop := ∃ x y b o n c, v = .agg #[x, y, .slice (some ⟨b, o, none⟩) n c] ∧ w.heap.size ≤ b ∧ ∀ k, y.ownBlock = some k → w.heap.size ≤ k
/-- The row of what is held does not lie in that block. -/
def OffB (g : Nat) (v : Value) : Prop := ∀ x y A n c, v = .agg #[x, y, .slice (some A) n c] → A.block ≠ g
theorem FrH.le {w w0 : World} {v : Value} (h : FrH w v) (hw : w0.heap.size ≤ w.heap.size) : FrH w0 v := by
  obtain ⟨x, y, b, o, n, c, e, hb, hy⟩ := h
  exact ⟨x, y, b, o, n, c, e, by omega, fun k hk => by have := hy k hk; omega⟩
theorem FrH.off {w : World} {v : Value} (h : FrH w v) {g : Nat} (hg : g < w.heap.size) : OffB g v := by
  obtain ⟨x, y, b, o, n, c, rfl, hb, -⟩ := h
  intro x' y' A n' c' e
  injection e with e
  injection e with e
  simp at e
  obtain ⟨-, -, rfl, -⟩ := e
  show b ≠ g
  omega
/-- May this be offered to that input? -/
def hasA (a : Aln) (i : Int) : Bool := decide (rightA a = true ∧ 0 ≤ i ∧ i < a.got.length)
theorem got_at {W : World} {v1 v3 : Value} {b o n c : Nat} {a : Aln} (h : AlAt W (.agg #[v1, .slice (some ⟨b, o, none⟩) n c, v3]) a) {k : Nat} {x : Bool} (hx : a.got[k]? = some x) :
    b < W.heap.size ∧ W.cell? ⟨b, o + k, none⟩ = some (.bool x) := by
  obtain ⟨vg, vh, e, -, ⟨h4, -⟩, -⟩ := h
  injection e with e
  injection e with e
  simp at e
  obtain ⟨-, rfl, -⟩ := e
  obtain ⟨b', o', c', e', -, hb, hX⟩ := h4.at_ hx
  injection e' with e1 _ _
  injection e1 with e1
  injection e1 with e1 e2
  subst e1 e2
  have := hX 0 _ rfl
  simp only [Nat.add_zero, Nat.mul_one] at this
  exact ⟨hb, this⟩
theorem got_some {W : World} {v1 v3 : Value} {A : Option Addr} {n c : Nat} {a : Aln} (h : AlAt W (.agg #[v1, .slice A n c, v3]) a) (hl : 0 < a.got.length) : ∃ b o, A = some ⟨b, o, none⟩ := by
  obtain ⟨vg, vh, e, -, ⟨⟨A', c', e2, -, h2⟩, -⟩, -⟩ := h
  injection e with e
  injection e with e
  simp at e
  obtain ⟨-, rfl, -⟩ := e
  injection e2 with e2
  obtain ⟨b, o, h3, -⟩ := h2 hl
  exact ⟨b, o, e2.trans h3⟩
set_option maxRecDepth 100000 in
set_option maxHeartbeats 8000000 in
theorem offer_no1 (a : Aln) (i : Int) (hi : wfL i) (it : It) (hwf : it.Wf) (v : Value) (w : World) (hv : AlAt w v a) (h : (hasA a i && rightI it) = false) :
    Calls Try.prog 19 #[v, .int .i64 i, itV it] w fun e w' => e = .returned (.tuple #[zAV, .bool false, .int .i64 0, .slice none 0 0, .int .i64 1]) ∧ Below w.heap.size w w' := by
  have HV := Lib.hid hv
  have HWF := Lib.hid hwf
  have Hh := Lib.hid h
  clear h
  obtain ⟨qr, hqr⟩ : ∃ q, rightI it = q := ⟨_, rfl⟩
  have HI := Lib.hid (fun W => right_any it W qr hqr)
  rw [hqr] at Hh
  clear hqr
  have HH := Lib.hid (fun v W hW => ahas_any a i hi v W hW)
  have HF := Lib.hid ofail_any
  unfold zAV at HF
  obtain ⟨Ag, cg, Ah, ch, rfl, -, -, -, hn, hlg, hlh⟩ := al_form hv
  unfold maxLen at hlg hlh
  obtain ⟨lg, hlg'⟩ : ∃ n, a.got.length = n := ⟨_, rfl⟩
  obtain ⟨lh, hlh'⟩ : ∃ n, a.held.length = n := ⟨_, rfl⟩
  have HLG := Lib.hid hlg'
  have HLH := Lib.hid hlh'
  rw [hlg', hlh'] at HV
  rw [hlg'] at hlg
  rw [hlh'] at hlh
  rw [hlg', hlh']
  unfold wfL at hi hn
  clear hv hlg' hlh' hwf
  obtain ⟨j0, j1, j2, j3, j4, j5, j6, j7, j8, j9, j10⟩ := it
  unfold itV
  unfold itV at HI
  change Hid (∀ v W, AlAt W v a → Calls Try.prog 44 #[v, .int .i64 i] W fun e w' => e = .returned (.bool (hasA a i)) ∧ Below W.heap.size W w') at HH
  obtain ⟨qh, hqh⟩ : ∃ q, hasA a i = q := ⟨_, rfl⟩
  rw [hqh] at HH Hh
  clear hqh
  unfold zAV
  go_enter Try.func19, Try.ntmps19
  go_wp2_with fail
  have KV := HV
  obtain ⟨W1, hW2⟩ : ∃ X, X = (((w).alloc (.cells #[.int .i64 a.n, .slice Ag lg cg, .slice Ah lh ch] 26)).alloc (.cells #[.int .i64 j0, .string j1, .int .i64 j2, .int .i64 j3, .int .i64 j4, .int .i64 j5, .int .i64 j6, .int .i64 j7, .string j8, .int .i64 j9, .int .i64 j10] 43)).alloc (.cells #[.int .i64 0, .slice none 0 0, .slice none 0 0] 26) := ⟨_, rfl⟩
  rw [← hW2]
  have hb3 : Below w.heap.size w W1 := by rw [hW2]; exact bel_alloc (bel_alloc (bel_alloc (Below.refl _ _) _) _) _
  have Ns := Lib.hid (show W1.heap[w.heap.size]? = some (.cells #[.int .i64 a.n, .slice Ag lg cg, .slice Ah lh ch] 26 (0, 0)) by rw [hW2]; exact heap_below (heap_at (w) _ (w.heap.size) (by simp)) (bel_alloc (bel_alloc (Below.refl _ _) _) _))
  have Nt := Lib.hid (show W1.heap[w.heap.size + 1]? = some (.cells #[.int .i64 j0, .string j1, .int .i64 j2, .int .i64 j3, .int .i64 j4, .int .i64 j5, .int .i64 j6, .int .i64 j7, .string j8, .int .i64 j9, .int .i64 j10] 43 (0, 0)) by rw [hW2]; exact heap_below (heap_at ((w).alloc (.cells #[.int .i64 a.n, .slice Ag lg cg, .slice Ah lh ch] 26)) _ (w.heap.size + 1) (by simp)) (bel_alloc (Below.refl _ _) _))
  have Nz := Lib.hid (show W1.heap[w.heap.size + 1 + 1]? = some (.cells #[.int .i64 0, .slice none 0 0, .slice none 0 0] 26 (0, 0)) by rw [hW2]; exact heap_at (((w).alloc (.cells #[.int .i64 a.n, .slice Ag lg cg, .slice Ah lh ch] 26)).alloc (.cells #[.int .i64 j0, .string j1, .int .i64 j2, .int .i64 j3, .int .i64 j4, .int .i64 j5, .int .i64 j6, .int .i64 j7, .string j8, .int .i64 j9, .int .i64 j10] 43)) _ (w.heap.size + 1 + 1) (by simp))
  clear hW2
  have Z := Lib.hid (AlAt.below KV.out hb3)
  clear KV
  have KV := Z
  clear Z
  have BB4 := Lib.hid hb3
  clear hb3
  have Bls := Ns
  clear Ns
  have Blt := Nt
  clear Nt
  have Blz := Nz
  clear Nz
  refine (HH.out _ _ KV.out).mono ?_
  rintro e w5 ⟨rfl, hb6⟩
  have Z := Lib.hid (heap_below Bls.out hb6)
  clear Bls
  have Bls := Z
  clear Z
  have Z := Lib.hid (heap_below Blt.out hb6)
  clear Blt
  have Blt := Z
  clear Z
  have Z := Lib.hid (heap_below Blz.out hb6)
  clear Blz
  have Blz := Z
  clear Z
  have Z := Lib.hid (AlAt.below KV.out hb6)
  clear KV
  have KV := Z
  clear Z
  have BB7 := Lib.hid (bThen BB4.out hb6)
  clear hb6
  cases qh with
  | false =>
    have zt := blk_lt Blt.out
    have xt0 := cellsAt Blt.out 0
    have xt1 := cellsAt Blt.out 1
    have xt2 := cellsAt Blt.out 2
    have xt3 := cellsAt Blt.out 3
    have xt4 := cellsAt Blt.out 4
    have xt5 := cellsAt Blt.out 5
    have xt6 := cellsAt Blt.out 6
    have xt7 := cellsAt Blt.out 7
    have xt8 := cellsAt Blt.out 8
    have xt9 := cellsAt Blt.out 9
    have xt10 := cellsAt Blt.out 10
    have ft := frozAt Blt.out
    simp at xt0 xt1 xt2 xt3 xt4 xt5 xt6 xt7 xt8 xt9 xt10
    have zz := blk_lt Blz.out
    have xz0 := cellsAt Blz.out 0
    have xz1 := cellsAt Blz.out 1
    have xz2 := cellsAt Blz.out 2
    have fz := frozAt Blz.out
    simp at xz0 xz1 xz2
    go_wp2_with fail
    refine (HF.out _ _).mono ?_
    rintro e w8 ⟨rfl, hb9⟩
    clear zt ft xt0 xt1 xt2 xt3 xt4 xt5 xt6 xt7 xt8 xt9 xt10 zz fz xz0 xz1 xz2
    have Z := Lib.hid (heap_below Bls.out hb9)
    clear Bls
    have Bls := Z
    clear Z
    have Z := Lib.hid (heap_below Blt.out hb9)
    clear Blt
    have Blt := Z
    clear Z
    have Z := Lib.hid (heap_below Blz.out hb9)
    clear Blz
    have Blz := Z
    clear Z
    have Z := Lib.hid (AlAt.below KV.out hb9)
    clear KV
    have KV := Z
    clear Z
    have BB10 := Lib.hid (bThen BB7.out hb9)
    clear hb9
    have zz := blk_lt Blz.out
    have xz0 := cellsAt Blz.out 0
    have xz1 := cellsAt Blz.out 1
    have xz2 := cellsAt Blz.out 2
    have fz := frozAt Blz.out
    simp at xz0 xz1 xz2
    go_wp2_with fail
    have hge2 : w.heap.size ≤ w.heap.size + 1 + 1 := by omega
    have E := blk_set (blk_set (blk_set Blz.out 0 (.int .i64 0)) 1 (.slice none 0 0)) 2 (.slice none 0 0)
    simp at E
    have BE := Lib.hid (((BB10.out.setCell (p := ⟨w.heap.size + 1 + 1, 0, none⟩) hge2 (.int .i64 0)).setCell (p := ⟨w.heap.size + 1 + 1, 1, none⟩) hge2 (.slice none 0 0)).setCell (p := ⟨w.heap.size + 1 + 1, 2, none⟩) hge2 (.slice none 0 0))
    clear zz fz xz0 xz1 xz2
    generalize ((w8.setCell ⟨w.heap.size + 1 + 1, 0, none⟩ (.int .i64 0)).setCell ⟨w.heap.size + 1 + 1, 1, none⟩ (.slice none 0 0)).setCell ⟨w.heap.size + 1 + 1, 2, none⟩ (.slice none 0 0) = W6 at *
    have e0 := cellsAt E 0
    have e1 := cellsAt E 1
    have e2 := cellsAt E 2
    simp at e0 e1 e2
    exact bodyPost_ret (v := .tuple #[.agg #[.int .i64 0, .slice none 0 0, .slice none 0 0], .bool false, .int .i64 0, .slice none 0 0, .int .i64 1]) (by simp [results, Try.results19, go_sem, e0, e1, e2]) rfl ⟨rfl, BE.out⟩
  | true =>
  obtain rfl : qr = false := by have := Hh.out; simpa using this
  have zt := blk_lt Blt.out
  have xt0 := cellsAt Blt.out 0
  have xt1 := cellsAt Blt.out 1
  have xt2 := cellsAt Blt.out 2
  have xt3 := cellsAt Blt.out 3
  have xt4 := cellsAt Blt.out 4
  have xt5 := cellsAt Blt.out 5
  have xt6 := cellsAt Blt.out 6
  have xt7 := cellsAt Blt.out 7
  have xt8 := cellsAt Blt.out 8
  have xt9 := cellsAt Blt.out 9
  have xt10 := cellsAt Blt.out 10
  have ft := frozAt Blt.out
  simp at xt0 xt1 xt2 xt3 xt4 xt5 xt6 xt7 xt8 xt9 xt10
  go_wp2_with fail
  refine (HI.out _).mono ?_
  rintro e w8 ⟨rfl, hb9⟩
  clear zt ft xt0 xt1 xt2 xt3 xt4 xt5 xt6 xt7 xt8 xt9 xt10
  have Z := Lib.hid (heap_below Bls.out hb9)
  clear Bls
  have Bls := Z
  clear Z
  have Z := Lib.hid (heap_below Blt.out hb9)
  clear Blt
  have Blt := Z
  clear Z
  have Z := Lib.hid (heap_below Blz.out hb9)
  clear Blz
  have Blz := Z
  clear Z
  have Z := Lib.hid (AlAt.below KV.out hb9)
  clear KV
  have KV := Z
  clear Z
  have BB10 := Lib.hid (bThen BB7.out hb9)
  clear hb9
  have zz := blk_lt Blz.out
  have xz0 := cellsAt Blz.out 0
  have xz1 := cellsAt Blz.out 1
  have xz2 := cellsAt Blz.out 2
  have fz := frozAt Blz.out
  simp at xz0 xz1 xz2
  go_wp2_with fail
  refine (HF.out _ _).mono ?_
  rintro e w11 ⟨rfl, hb12⟩
  clear zz fz xz0 xz1 xz2
  have Z := Lib.hid (heap_below Bls.out hb12)
  clear Bls
  have Bls := Z
  clear Z
  have Z := Lib.hid (heap_below Blt.out hb12)
  clear Blt
  have Blt := Z
  clear Z
  have Z := Lib.hid (heap_below Blz.out hb12)
  clear Blz
  have Blz := Z
  clear Z
  have Z := Lib.hid (AlAt.below KV.out hb12)
  clear KV
  have KV := Z
  clear Z
  have BB13 := Lib.hid (bThen BB10.out hb12)
  clear hb12
  have zz := blk_lt Blz.out
  have xz0 := cellsAt Blz.out 0
  have xz1 := cellsAt Blz.out 1
  have xz2 := cellsAt Blz.out 2
  have fz := frozAt Blz.out
  simp at xz0 xz1 xz2
  go_wp2_with fail
  have hge2 : w.heap.size ≤ w.heap.size + 1 + 1 := by omega
  have E := blk_set (blk_set (blk_set Blz.out 0 (.int .i64 0)) 1 (.slice none 0 0)) 2 (.slice none 0 0)
  simp at E
  have BE := Lib.hid (((BB13.out.setCell (p := ⟨w.heap.size + 1 + 1, 0, none⟩) hge2 (.int .i64 0)).setCell (p := ⟨w.heap.size + 1 + 1, 1, none⟩) hge2 (.slice none 0 0)).setCell (p := ⟨w.heap.size + 1 + 1, 2, none⟩) hge2 (.slice none 0 0))
  clear zz fz xz0 xz1 xz2
  generalize ((w11.setCell ⟨w.heap.size + 1 + 1, 0, none⟩ (.int .i64 0)).setCell ⟨w.heap.size + 1 + 1, 1, none⟩ (.slice none 0 0)).setCell ⟨w.heap.size + 1 + 1, 2, none⟩ (.slice none 0 0) = W6 at *
  have e0 := cellsAt E 0
  have e1 := cellsAt E 1
  have e2 := cellsAt E 2
  simp at e0 e1 e2
  exact bodyPost_ret (v := .tuple #[.agg #[.int .i64 0, .slice none 0 0, .slice none 0 0], .bool false, .int .i64 0, .slice none 0 0, .int .i64 1]) (by simp [results, Try.results19, go_sem, e0, e1, e2]) rfl ⟨rfl, BE.out⟩
set_option maxRecDepth 100000 in
set_option maxHeartbeats 8000000 in
theorem offer_no3 (a : Aln) (N : Nat) (it : It) (hwf : it.Wf) (v : Value) (w : World) (hv : AlAt w v a) (hr : rightA a = true) (hri : rightI it = true) (hNlt : N < a.got.length) (hlen8 : a.got.length ≤ 8) (x : Hl) (hx : a.held[N]? = some x) (g : Bool) (hg : a.got[N]? = some g) (hg1 : g = true) (h16 : 16 ≤ x.l.length) :
    Calls Try.prog 19 #[v, .int .i64 (N : Int), itV it] w fun e w' => e = .returned (.tuple #[zAV, .bool false, .int .i64 0, .slice none 0 0, .int .i64 3]) ∧ Below w.heap.size w w' := by
  have HV := Lib.hid hv
  have HWF := Lib.hid hwf
  have hp := right_parts hr
  have HRI := Lib.hid (fun W => right_any it W true hri)
  have HHA := Lib.hid (show hasA a (N : Int) = true from decide_eq_true ⟨hr, by omega, by omega⟩)
  have hi : wfL (N : Int) := by unfold wfL; omega
  have hN8 : N < 8 := by omega
  have HX := Lib.hid hx
  have HG := Lib.hid hg
  have HPP := Lib.hid hp
  have hxl := hp.2.2 N x hx
  have HH := Lib.hid (fun v W hW => ahas_any a (N : Int) hi v W hW)
  have HF := Lib.hid ofail_any
  unfold zAV at HF
  obtain ⟨Ag, cg, Ah, ch, rfl, -, -, -, hn, hlg, hlh⟩ := al_form hv
  unfold maxLen at hlg hlh
  obtain ⟨lg, hlg'⟩ : ∃ n, a.got.length = n := ⟨_, rfl⟩
  obtain ⟨lh, hlh'⟩ : ∃ n, a.held.length = n := ⟨_, rfl⟩
  have HLG := Lib.hid hlg'
  have HLH := Lib.hid hlh'
  rw [hlg', hlh'] at HV
  rw [hlg'] at hlg
  rw [hlh'] at hlh
  rw [hlg', hlh']
  unfold wfL at hi hn
  clear hv hlg' hlh' hwf
  obtain ⟨j0, j1, j2, j3, j4, j5, j6, j7, j8, j9, j10⟩ := it
  unfold itV
  unfold itV at HRI
  change Hid (∀ v W, AlAt W v a → Calls Try.prog 44 #[v, .int .i64 (N : Int)] W fun e w' => e = .returned (.bool (hasA a (N : Int))) ∧ Below W.heap.size W w') at HH
  rw [HHA.out] at HH
  have hlgh : lh = lg := by rw [← HLH.out, ← HLG.out]; exact HPP.out.1
  subst hlgh
  have hNl : N < lh := by rw [← HLH.out]; exact (List.getElem?_eq_some_iff.1 HX.out).1
  obtain ⟨b0, o0, rfl⟩ := held_some HV.out (by rw [HLH.out]; omega)
  obtain ⟨b1, o1, rfl⟩ := got_some HV.out (by rw [HLG.out]; omega)
  have hNi : (0 : Int) ≤ (N : Int) := by omega
  have hNi2 : (N : Int) < (lh : Int) := by omega
  clear hx hg hp hr hri
  obtain ⟨xr, xl⟩ := x
  simp only at hxl
  simp only at h16
  subst hg1
  have t5 : decide (16 ≤ (xl.length : Int)) = true := by simp; omega
  have t6 : decide (16 ≤ xl.length) = true := by simp; omega
  unfold zAV
  go_enter Try.func19, Try.ntmps19
  go_wp2_with fail
  have KV := HV
  obtain ⟨W1, hW2⟩ : ∃ X, X = (((w).alloc (.cells #[.int .i64 a.n, .slice (some ⟨b1, o1, none⟩) lh cg, .slice (some ⟨b0, o0, none⟩) lh ch] 26)).alloc (.cells #[.int .i64 j0, .string j1, .int .i64 j2, .int .i64 j3, .int .i64 j4, .int .i64 j5, .int .i64 j6, .int .i64 j7, .string j8, .int .i64 j9, .int .i64 j10] 43)).alloc (.cells #[.int .i64 0, .slice none 0 0, .slice none 0 0] 26) := ⟨_, rfl⟩
  rw [← hW2]
  have hb3 : Below w.heap.size w W1 := by rw [hW2]; exact bel_alloc (bel_alloc (bel_alloc (Below.refl _ _) _) _) _
  have Ns := Lib.hid (show W1.heap[w.heap.size]? = some (.cells #[.int .i64 a.n, .slice (some ⟨b1, o1, none⟩) lh cg, .slice (some ⟨b0, o0, none⟩) lh ch] 26 (0, 0)) by rw [hW2]; exact heap_below (heap_at (w) _ (w.heap.size) (by simp)) (bel_alloc (bel_alloc (Below.refl _ _) _) _))
  have Nt := Lib.hid (show W1.heap[w.heap.size + 1]? = some (.cells #[.int .i64 j0, .string j1, .int .i64 j2, .int .i64 j3, .int .i64 j4, .int .i64 j5, .int .i64 j6, .int .i64 j7, .string j8, .int .i64 j9, .int .i64 j10] 43 (0, 0)) by rw [hW2]; exact heap_below (heap_at ((w).alloc (.cells #[.int .i64 a.n, .slice (some ⟨b1, o1, none⟩) lh cg, .slice (some ⟨b0, o0, none⟩) lh ch] 26)) _ (w.heap.size + 1) (by simp)) (bel_alloc (Below.refl _ _) _))
  have Nz := Lib.hid (show W1.heap[w.heap.size + 1 + 1]? = some (.cells #[.int .i64 0, .slice none 0 0, .slice none 0 0] 26 (0, 0)) by rw [hW2]; exact heap_at (((w).alloc (.cells #[.int .i64 a.n, .slice (some ⟨b1, o1, none⟩) lh cg, .slice (some ⟨b0, o0, none⟩) lh ch] 26)).alloc (.cells #[.int .i64 j0, .string j1, .int .i64 j2, .int .i64 j3, .int .i64 j4, .int .i64 j5, .int .i64 j6, .int .i64 j7, .string j8, .int .i64 j9, .int .i64 j10] 43)) _ (w.heap.size + 1 + 1) (by simp))
  clear hW2
  have Z := Lib.hid (AlAt.below KV.out hb3)
  clear KV
  have KV := Z
  clear Z
  have BB4 := Lib.hid hb3
  clear hb3
  have Bls := Ns
  clear Ns
  have Blt := Nt
  clear Nt
  have Blz := Nz
  clear Nz
  refine (HH.out _ _ KV.out).mono ?_
  rintro e w5 ⟨rfl, hb6⟩
  have Z := Lib.hid (heap_below Bls.out hb6)
  clear Bls
  have Bls := Z
  clear Z
  have Z := Lib.hid (heap_below Blt.out hb6)
  clear Blt
  have Blt := Z
  clear Z
  have Z := Lib.hid (heap_below Blz.out hb6)
  clear Blz
  have Blz := Z
  clear Z
  have Z := Lib.hid (AlAt.below KV.out hb6)
  clear KV
  have KV := Z
  clear Z
  have BB7 := Lib.hid (bThen BB4.out hb6)
  clear hb6
  have zt := blk_lt Blt.out
  have xt0 := cellsAt Blt.out 0
  have xt1 := cellsAt Blt.out 1
  have xt2 := cellsAt Blt.out 2
  have xt3 := cellsAt Blt.out 3
  have xt4 := cellsAt Blt.out 4
  have xt5 := cellsAt Blt.out 5
  have xt6 := cellsAt Blt.out 6
  have xt7 := cellsAt Blt.out 7
  have xt8 := cellsAt Blt.out 8
  have xt9 := cellsAt Blt.out 9
  have xt10 := cellsAt Blt.out 10
  have ft := frozAt Blt.out
  simp at xt0 xt1 xt2 xt3 xt4 xt5 xt6 xt7 xt8 xt9 xt10
  go_wp2_with fail
  refine (HRI.out _).mono ?_
  rintro e w8 ⟨rfl, hb9⟩
  clear zt ft xt0 xt1 xt2 xt3 xt4 xt5 xt6 xt7 xt8 xt9 xt10
  have Z := Lib.hid (heap_below Bls.out hb9)
  clear Bls
  have Bls := Z
  clear Z
  have Z := Lib.hid (heap_below Blt.out hb9)
  clear Blt
  have Blt := Z
  clear Z
  have Z := Lib.hid (heap_below Blz.out hb9)
  clear Blz
  have Blz := Z
  clear Z
  have Z := Lib.hid (AlAt.below KV.out hb9)
  clear KV
  have KV := Z
  clear Z
  have BB10 := Lib.hid (bThen BB7.out hb9)
  clear hb9
  obtain ⟨hbh, ch0, hxa⟩ := held_at KV.out HX.out
  obtain ⟨hbg, cg0⟩ := got_at KV.out HG.out
  simp only at ch0
  have RX := Lib.hid hxa
  obtain ⟨⟨Ax, cx, hxe, -, -⟩, -, -⟩ := RX.out
  simp only at hxe
  subst hxe
  have zs := blk_lt Bls.out
  have xs0 := cellsAt Bls.out 0
  have xs1 := cellsAt Bls.out 1
  have xs2 := cellsAt Bls.out 2
  have fs := frozAt Bls.out
  simp at xs0 xs1 xs2
  have zt := blk_lt Blt.out
  have xt0 := cellsAt Blt.out 0
  have xt1 := cellsAt Blt.out 1
  have xt2 := cellsAt Blt.out 2
  have xt3 := cellsAt Blt.out 3
  have xt4 := cellsAt Blt.out 4
  have xt5 := cellsAt Blt.out 5
  have xt6 := cellsAt Blt.out 6
  have xt7 := cellsAt Blt.out 7
  have xt8 := cellsAt Blt.out 8
  have xt9 := cellsAt Blt.out 9
  have xt10 := cellsAt Blt.out 10
  have ft := frozAt Blt.out
  simp at xt0 xt1 xt2 xt3 xt4 xt5 xt6 xt7 xt8 xt9 xt10
  have zz := blk_lt Blz.out
  have xz0 := cellsAt Blz.out 0
  have xz1 := cellsAt Blz.out 1
  have xz2 := cellsAt Blz.out 2
  have fz := frozAt Blz.out
  simp at xz0 xz1 xz2
  go_wp2_with fail
  refine (HF.out _ _).mono ?_
  rintro e w11 ⟨rfl, hb12⟩
  clear zs fs xs0 xs1 xs2 zt ft xt0 xt1 xt2 xt3 xt4 xt5 xt6 xt7 xt8 xt9 xt10 zz fz xz0 xz1 xz2
  have Z := Lib.hid (heap_below Bls.out hb12)
  clear Bls
  have Bls := Z
  clear Z
  have Z := Lib.hid (heap_below Blt.out hb12)
  clear Blt
  have Blt := Z
  clear Z
  have Z := Lib.hid (heap_below Blz.out hb12)
  clear Blz
  have Blz := Z
  clear Z
  have Z := Lib.hid (AlAt.below KV.out hb12)
  clear KV
  have KV := Z
  clear Z
  have BB13 := Lib.hid (bThen BB10.out hb12)
  clear hb12
  have zz := blk_lt Blz.out
  have xz0 := cellsAt Blz.out 0
  have xz1 := cellsAt Blz.out 1
  have xz2 := cellsAt Blz.out 2
  have fz := frozAt Blz.out
  simp at xz0 xz1 xz2
  go_wp2_with fail
  have hge2 : w.heap.size ≤ w.heap.size + 1 + 1 := by omega
  have E := blk_set (blk_set (blk_set Blz.out 0 (.int .i64 0)) 1 (.slice none 0 0)) 2 (.slice none 0 0)
  simp at E
  have BE := Lib.hid (((BB13.out.setCell (p := ⟨w.heap.size + 1 + 1, 0, none⟩) hge2 (.int .i64 0)).setCell (p := ⟨w.heap.size + 1 + 1, 1, none⟩) hge2 (.slice none 0 0)).setCell (p := ⟨w.heap.size + 1 + 1, 2, none⟩) hge2 (.slice none 0 0))
  clear zz fz xz0 xz1 xz2
  generalize ((w11.setCell ⟨w.heap.size + 1 + 1, 0, none⟩ (.int .i64 0)).setCell ⟨w.heap.size + 1 + 1, 1, none⟩ (.slice none 0 0)).setCell ⟨w.heap.size + 1 + 1, 2, none⟩ (.slice none 0 0) = W6 at *
  have e0 := cellsAt E 0
  have e1 := cellsAt E 1
  have e2 := cellsAt E 2
  simp at e0 e1 e2
  exact bodyPost_ret (v := .tuple #[.agg #[.int .i64 0, .slice none 0 0, .slice none 0 0], .bool false, .int .i64 0, .slice none 0 0, .int .i64 3]) (by simp [results, Try.results19, go_sem, e0, e1, e2]) rfl ⟨rfl, BE.out⟩
set_option maxRecDepth 100000 in
set_option maxHeartbeats 8000000 in
theorem offer_pass (a : Aln) (N : Nat) (it : It) (hwf : it.Wf) (v : Value) (w : World) (hv : AlAt w v a) (hr : rightA a = true) (hri : rightI it = true) (hNlt : N < a.got.length) (hlen8 : a.got.length ≤ 8) (x : Hl) (hx : a.held[N]? = some x) (g : Bool) (hg : a.got[N]? = some g) (hg1 : g = false) (hk : it.kind ≠ 4) :
    Calls Try.prog 19 #[v, .int .i64 (N : Int), itV it] w fun e w' => (e = .returned (.tuple #[v, .bool true, .int .i64 0, .slice none 0 0, .int .i64 0]) ∧ AlAt w' v a) ∧ Below w.heap.size w w' := by
  have HV := Lib.hid hv
  have HWF := Lib.hid hwf
  have hp := right_parts hr
  have HRI := Lib.hid (fun W => right_any it W true hri)
  have HHA := Lib.hid (show hasA a (N : Int) = true from decide_eq_true ⟨hr, by omega, by omega⟩)
  have hi : wfL (N : Int) := by unfold wfL; omega
  have hN8 : N < 8 := by omega
  have HX := Lib.hid hx
  have HG := Lib.hid hg
  have HPP := Lib.hid hp
  have hxl := hp.2.2 N x hx
  have HH := Lib.hid (fun v W hW => ahas_any a (N : Int) hi v W hW)
  have HF := Lib.hid ofail_any
  unfold zAV at HF
  obtain ⟨Ag, cg, Ah, ch, rfl, -, -, -, hn, hlg, hlh⟩ := al_form hv
  unfold maxLen at hlg hlh
  obtain ⟨lg, hlg'⟩ : ∃ n, a.got.length = n := ⟨_, rfl⟩
  obtain ⟨lh, hlh'⟩ : ∃ n, a.held.length = n := ⟨_, rfl⟩
  have HLG := Lib.hid hlg'
  have HLH := Lib.hid hlh'
  rw [hlg', hlh'] at HV
  rw [hlg'] at hlg
  rw [hlh'] at hlh
  rw [hlg', hlh']
  unfold wfL at hi hn
  clear hv hlg' hlh' hwf
  obtain ⟨j0, j1, j2, j3, j4, j5, j6, j7, j8, j9, j10⟩ := it
  unfold itV
  unfold itV at HRI
  change Hid (∀ v W, AlAt W v a → Calls Try.prog 44 #[v, .int .i64 (N : Int)] W fun e w' => e = .returned (.bool (hasA a (N : Int))) ∧ Below W.heap.size W w') at HH
  rw [HHA.out] at HH
  have hlgh : lh = lg := by rw [← HLH.out, ← HLG.out]; exact HPP.out.1
  subst hlgh
  have hNl : N < lh := by rw [← HLH.out]; exact (List.getElem?_eq_some_iff.1 HX.out).1
  obtain ⟨b0, o0, rfl⟩ := held_some HV.out (by rw [HLH.out]; omega)
  obtain ⟨b1, o1, rfl⟩ := got_some HV.out (by rw [HLG.out]; omega)
  have hNi : (0 : Int) ≤ (N : Int) := by omega
  have hNi2 : (N : Int) < (lh : Int) := by omega
  clear hx hg hp hr hri
  obtain ⟨xr, xl⟩ := x
  simp only at hxl
  simp only at hk
  subst hg1
  have t7 : (j0 != 4) = true := by simpa using hk
  go_enter Try.func19, Try.ntmps19
  go_wp2_with fail
  have KV := HV
  obtain ⟨W1, hW2⟩ : ∃ X, X = (((w).alloc (.cells #[.int .i64 a.n, .slice (some ⟨b1, o1, none⟩) lh cg, .slice (some ⟨b0, o0, none⟩) lh ch] 26)).alloc (.cells #[.int .i64 j0, .string j1, .int .i64 j2, .int .i64 j3, .int .i64 j4, .int .i64 j5, .int .i64 j6, .int .i64 j7, .string j8, .int .i64 j9, .int .i64 j10] 43)).alloc (.cells #[.int .i64 0, .slice none 0 0, .slice none 0 0] 26) := ⟨_, rfl⟩
  rw [← hW2]
  have hb3 : Below w.heap.size w W1 := by rw [hW2]; exact bel_alloc (bel_alloc (bel_alloc (Below.refl _ _) _) _) _
  have Ns := Lib.hid (show W1.heap[w.heap.size]? = some (.cells #[.int .i64 a.n, .slice (some ⟨b1, o1, none⟩) lh cg, .slice (some ⟨b0, o0, none⟩) lh ch] 26 (0, 0)) by rw [hW2]; exact heap_below (heap_at (w) _ (w.heap.size) (by simp)) (bel_alloc (bel_alloc (Below.refl _ _) _) _))
  have Nt := Lib.hid (show W1.heap[w.heap.size + 1]? = some (.cells #[.int .i64 j0, .string j1, .int .i64 j2, .int .i64 j3, .int .i64 j4, .int .i64 j5, .int .i64 j6, .int .i64 j7, .string j8, .int .i64 j9, .int .i64 j10] 43 (0, 0)) by rw [hW2]; exact heap_below (heap_at ((w).alloc (.cells #[.int .i64 a.n, .slice (some ⟨b1, o1, none⟩) lh cg, .slice (some ⟨b0, o0, none⟩) lh ch] 26)) _ (w.heap.size + 1) (by simp)) (bel_alloc (Below.refl _ _) _))
  have Nz := Lib.hid (show W1.heap[w.heap.size + 1 + 1]? = some (.cells #[.int .i64 0, .slice none 0 0, .slice none 0 0] 26 (0, 0)) by rw [hW2]; exact heap_at (((w).alloc (.cells #[.int .i64 a.n, .slice (some ⟨b1, o1, none⟩) lh cg, .slice (some ⟨b0, o0, none⟩) lh ch] 26)).alloc (.cells #[.int .i64 j0, .string j1, .int .i64 j2, .int .i64 j3, .int .i64 j4, .int .i64 j5, .int .i64 j6, .int .i64 j7, .string j8, .int .i64 j9, .int .i64 j10] 43)) _ (w.heap.size + 1 + 1) (by simp))
  clear hW2
  have Z := Lib.hid (AlAt.below KV.out hb3)
  clear KV
  have KV := Z
  clear Z
  have BB4 := Lib.hid hb3
  clear hb3
  have Bls := Ns
  clear Ns
  have Blt := Nt
  clear Nt
  have Blz := Nz
  clear Nz
  refine (HH.out _ _ KV.out).mono ?_
  rintro e w5 ⟨rfl, hb6⟩
  have Z := Lib.hid (heap_below Bls.out hb6)
  clear Bls
  have Bls := Z
  clear Z
  have Z := Lib.hid (heap_below Blt.out hb6)
  clear Blt
  have Blt := Z
  clear Z
  have Z := Lib.hid (heap_below Blz.out hb6)
  clear Blz
  have Blz := Z
  clear Z
  have Z := Lib.hid (AlAt.below KV.out hb6)
  clear KV
  have KV := Z
  clear Z
  have BB7 := Lib.hid (bThen BB4.out hb6)
  clear hb6
  have zt := blk_lt Blt.out
  have xt0 := cellsAt Blt.out 0
  have xt1 := cellsAt Blt.out 1
  have xt2 := cellsAt Blt.out 2
  have xt3 := cellsAt Blt.out 3
  have xt4 := cellsAt Blt.out 4
  have xt5 := cellsAt Blt.out 5
  have xt6 := cellsAt Blt.out 6
  have xt7 := cellsAt Blt.out 7
  have xt8 := cellsAt Blt.out 8
  have xt9 := cellsAt Blt.out 9
  have xt10 := cellsAt Blt.out 10
  have ft := frozAt Blt.out
  simp at xt0 xt1 xt2 xt3 xt4 xt5 xt6 xt7 xt8 xt9 xt10
  go_wp2_with fail
  refine (HRI.out _).mono ?_
  rintro e w8 ⟨rfl, hb9⟩
  clear zt ft xt0 xt1 xt2 xt3 xt4 xt5 xt6 xt7 xt8 xt9 xt10
  have Z := Lib.hid (heap_below Bls.out hb9)
  clear Bls
  have Bls := Z
  clear Z
  have Z := Lib.hid (heap_below Blt.out hb9)
  clear Blt
  have Blt := Z
  clear Z
  have Z := Lib.hid (heap_below Blz.out hb9)
  clear Blz
  have Blz := Z
  clear Z
  have Z := Lib.hid (AlAt.below KV.out hb9)
  clear KV
  have KV := Z
  clear Z
  have BB10 := Lib.hid (bThen BB7.out hb9)
  clear hb9
  obtain ⟨hbh, ch0, hxa⟩ := held_at KV.out HX.out
  obtain ⟨hbg, cg0⟩ := got_at KV.out HG.out
  simp only at ch0
  have RX := Lib.hid hxa
  obtain ⟨⟨Ax, cx, hxe, -, -⟩, -, -⟩ := RX.out
  simp only at hxe
  subst hxe
  have zs := blk_lt Bls.out
  have xs0 := cellsAt Bls.out 0
  have xs1 := cellsAt Bls.out 1
  have xs2 := cellsAt Bls.out 2
  have fs := frozAt Bls.out
  simp at xs0 xs1 xs2
  have zt := blk_lt Blt.out
  have xt0 := cellsAt Blt.out 0
  have xt1 := cellsAt Blt.out 1
  have xt2 := cellsAt Blt.out 2
  have xt3 := cellsAt Blt.out 3
  have xt4 := cellsAt Blt.out 4
  have xt5 := cellsAt Blt.out 5
  have xt6 := cellsAt Blt.out 6
  have xt7 := cellsAt Blt.out 7
  have xt8 := cellsAt Blt.out 8
  have xt9 := cellsAt Blt.out 9
  have xt10 := cellsAt Blt.out 10
  have ft := frozAt Blt.out
  simp at xt0 xt1 xt2 xt3 xt4 xt5 xt6 xt7 xt8 xt9 xt10
  have zz := blk_lt Blz.out
  have xz0 := cellsAt Blz.out 0
  have xz1 := cellsAt Blz.out 1
  have xz2 := cellsAt Blz.out 2
  have fz := frozAt Blz.out
  simp at xz0 xz1 xz2
  go_wp2_with fail
  have hge2 : w.heap.size ≤ w.heap.size + 1 + 1 := by omega
  have E := blk_set (blk_set (blk_set Blz.out 0 (.int .i64 a.n)) 1 (.slice (some ⟨b1, o1, none⟩) lh cg)) 2 (.slice (some ⟨b0, o0, none⟩) lh ch)
  simp at E
  have BE := Lib.hid (((BB10.out.setCell (p := ⟨w.heap.size + 1 + 1, 0, none⟩) hge2 (.int .i64 a.n)).setCell (p := ⟨w.heap.size + 1 + 1, 1, none⟩) hge2 (.slice (some ⟨b1, o1, none⟩) lh cg)).setCell (p := ⟨w.heap.size + 1 + 1, 2, none⟩) hge2 (.slice (some ⟨b0, o0, none⟩) lh ch))
  clear zs fs xs0 xs1 xs2 zt ft xt0 xt1 xt2 xt3 xt4 xt5 xt6 xt7 xt8 xt9 xt10 zz fz xz0 xz1 xz2
  generalize ((w8.setCell ⟨w.heap.size + 1 + 1, 0, none⟩ (.int .i64 a.n)).setCell ⟨w.heap.size + 1 + 1, 1, none⟩ (.slice (some ⟨b1, o1, none⟩) lh cg)).setCell ⟨w.heap.size + 1 + 1, 2, none⟩ (.slice (some ⟨b0, o0, none⟩) lh ch) = W6 at *
  have e0 := cellsAt E 0
  have e1 := cellsAt E 1
  have e2 := cellsAt E 2
  simp at e0 e1 e2
  exact bodyPost_ret (v := .tuple #[.agg #[.int .i64 a.n, .slice (some ⟨b1, o1, none⟩) lh cg, .slice (some ⟨b0, o0, none⟩) lh ch], .bool true, .int .i64 0, .slice none 0 0, .int .i64 0]) (by simp [results, Try.results19, go_sem, e0, e1, e2]) rfl ⟨⟨rfl, HV.out.below BE.out⟩, BE.out⟩
set_option maxRecDepth 100000 in
set_option maxHeartbeats 8000000 in
theorem offer_no4 (a : Aln) (N : Nat) (it : It) (hwf : it.Wf) (v : Value) (w : World) (hv : AlAt w v a) (hr : rightA a = true) (hri : rightI it = true) (hNlt : N < a.got.length) (hlen8 : a.got.length ≤ 8) (x : Hl) (hx : a.held[N]? = some x) (g : Bool) (hg : a.got[N]? = some g) (hg1 : g = false) (hk : it.kind = 4) (hn0 : a.n ≠ 0) (hn1 : a.n ≠ it.n) :
    Calls Try.prog 19 #[v, .int .i64 (N : Int), itV it] w fun e w' => e = .returned (.tuple #[zAV, .bool false, .int .i64 0, .slice none 0 0, .int .i64 190]) ∧ Below w.heap.size w w' := by
  have HV := Lib.hid hv
  have HWF := Lib.hid hwf
  have hp := right_parts hr
  have HRI := Lib.hid (fun W => right_any it W true hri)
  have HHA := Lib.hid (show hasA a (N : Int) = true from decide_eq_true ⟨hr, by omega, by omega⟩)
  have hi : wfL (N : Int) := by unfold wfL; omega
  have hN8 : N < 8 := by omega
  have HX := Lib.hid hx
  have HG := Lib.hid hg
  have HPP := Lib.hid hp
  have hxl := hp.2.2 N x hx
  have HH := Lib.hid (fun v W hW => ahas_any a (N : Int) hi v W hW)
  have HF := Lib.hid ofail_any
  unfold zAV at HF
  obtain ⟨Ag, cg, Ah, ch, rfl, -, -, -, hn, hlg, hlh⟩ := al_form hv
  unfold maxLen at hlg hlh
  obtain ⟨lg, hlg'⟩ : ∃ n, a.got.length = n := ⟨_, rfl⟩
  obtain ⟨lh, hlh'⟩ : ∃ n, a.held.length = n := ⟨_, rfl⟩
  have HLG := Lib.hid hlg'
  have HLH := Lib.hid hlh'
  rw [hlg', hlh'] at HV
  rw [hlg'] at hlg
  rw [hlh'] at hlh
  rw [hlg', hlh']
  unfold wfL at hi hn
  clear hv hlg' hlh' hwf
  obtain ⟨j0, j1, j2, j3, j4, j5, j6, j7, j8, j9, j10⟩ := it
  unfold itV
  unfold itV at HRI
  change Hid (∀ v W, AlAt W v a → Calls Try.prog 44 #[v, .int .i64 (N : Int)] W fun e w' => e = .returned (.bool (hasA a (N : Int))) ∧ Below W.heap.size W w') at HH
  rw [HHA.out] at HH
  have hlgh : lh = lg := by rw [← HLH.out, ← HLG.out]; exact HPP.out.1
  subst hlgh
  have hNl : N < lh := by rw [← HLH.out]; exact (List.getElem?_eq_some_iff.1 HX.out).1
  obtain ⟨b0, o0, rfl⟩ := held_some HV.out (by rw [HLH.out]; omega)
  obtain ⟨b1, o1, rfl⟩ := got_some HV.out (by rw [HLG.out]; omega)
  have hNi : (0 : Int) ≤ (N : Int) := by omega
  have hNi2 : (N : Int) < (lh : Int) := by omega
  clear hx hg hp hr hri
  obtain ⟨xr, xl⟩ := x
  simp only at hxl
  simp only at hk hn1
  subst hg1
  subst hk
  have t8 : (a.n != 0) = true := by simpa using hn0
  have t9 : (a.n != j5) = true := by simpa using hn1
  unfold zAV
  go_enter Try.func19, Try.ntmps19
  go_wp2_with fail
  have KV := HV
  obtain ⟨W1, hW2⟩ : ∃ X, X = (((w).alloc (.cells #[.int .i64 a.n, .slice (some ⟨b1, o1, none⟩) lh cg, .slice (some ⟨b0, o0, none⟩) lh ch] 26)).alloc (.cells #[.int .i64 4, .string j1, .int .i64 j2, .int .i64 j3, .int .i64 j4, .int .i64 j5, .int .i64 j6, .int .i64 j7, .string j8, .int .i64 j9, .int .i64 j10] 43)).alloc (.cells #[.int .i64 0, .slice none 0 0, .slice none 0 0] 26) := ⟨_, rfl⟩
  rw [← hW2]
  have hb3 : Below w.heap.size w W1 := by rw [hW2]; exact bel_alloc (bel_alloc (bel_alloc (Below.refl _ _) _) _) _
  have Ns := Lib.hid (show W1.heap[w.heap.size]? = some (.cells #[.int .i64 a.n, .slice (some ⟨b1, o1, none⟩) lh cg, .slice (some ⟨b0, o0, none⟩) lh ch] 26 (0, 0)) by rw [hW2]; exact heap_below (heap_at (w) _ (w.heap.size) (by simp)) (bel_alloc (bel_alloc (Below.refl _ _) _) _))
  have Nt := Lib.hid (show W1.heap[w.heap.size + 1]? = some (.cells #[.int .i64 4, .string j1, .int .i64 j2, .int .i64 j3, .int .i64 j4, .int .i64 j5, .int .i64 j6, .int .i64 j7, .string j8, .int .i64 j9, .int .i64 j10] 43 (0, 0)) by rw [hW2]; exact heap_below (heap_at ((w).alloc (.cells #[.int .i64 a.n, .slice (some ⟨b1, o1, none⟩) lh cg, .slice (some ⟨b0, o0, none⟩) lh ch] 26)) _ (w.heap.size + 1) (by simp)) (bel_alloc (Below.refl _ _) _))
  have Nz := Lib.hid (show W1.heap[w.heap.size + 1 + 1]? = some (.cells #[.int .i64 0, .slice none 0 0, .slice none 0 0] 26 (0, 0)) by rw [hW2]; exact heap_at (((w).alloc (.cells #[.int .i64 a.n, .slice (some ⟨b1, o1, none⟩) lh cg, .slice (some ⟨b0, o0, none⟩) lh ch] 26)).alloc (.cells #[.int .i64 4, .string j1, .int .i64 j2, .int .i64 j3, .int .i64 j4, .int .i64 j5, .int .i64 j6, .int .i64 j7, .string j8, .int .i64 j9, .int .i64 j10] 43)) _ (w.heap.size + 1 + 1) (by simp))
  clear hW2
  have Z := Lib.hid (AlAt.below KV.out hb3)
  clear KV
  have KV := Z
  clear Z
  have BB4 := Lib.hid hb3
  clear hb3
  have Bls := Ns
  clear Ns
  have Blt := Nt
  clear Nt
  have Blz := Nz
  clear Nz
  refine (HH.out _ _ KV.out).mono ?_
  rintro e w5 ⟨rfl, hb6⟩
  have Z := Lib.hid (heap_below Bls.out hb6)
  clear Bls
  have Bls := Z
  clear Z
  have Z := Lib.hid (heap_below Blt.out hb6)
  clear Blt
  have Blt := Z
  clear Z
  have Z := Lib.hid (heap_below Blz.out hb6)
  clear Blz
  have Blz := Z
  clear Z
  have Z := Lib.hid (AlAt.below KV.out hb6)
  clear KV
  have KV := Z
  clear Z
  have BB7 := Lib.hid (bThen BB4.out hb6)
  clear hb6
  have zt := blk_lt Blt.out
  have xt0 := cellsAt Blt.out 0
  have xt1 := cellsAt Blt.out 1
  have xt2 := cellsAt Blt.out 2
  have xt3 := cellsAt Blt.out 3
  have xt4 := cellsAt Blt.out 4
  have xt5 := cellsAt Blt.out 5
  have xt6 := cellsAt Blt.out 6
  have xt7 := cellsAt Blt.out 7
  have xt8 := cellsAt Blt.out 8
  have xt9 := cellsAt Blt.out 9
  have xt10 := cellsAt Blt.out 10
  have ft := frozAt Blt.out
  simp at xt0 xt1 xt2 xt3 xt4 xt5 xt6 xt7 xt8 xt9 xt10
  go_wp2_with fail
  refine (HRI.out _).mono ?_
  rintro e w8 ⟨rfl, hb9⟩
  clear zt ft xt0 xt1 xt2 xt3 xt4 xt5 xt6 xt7 xt8 xt9 xt10
  have Z := Lib.hid (heap_below Bls.out hb9)
  clear Bls
  have Bls := Z
  clear Z
  have Z := Lib.hid (heap_below Blt.out hb9)
  clear Blt
  have Blt := Z
  clear Z
  have Z := Lib.hid (heap_below Blz.out hb9)
  clear Blz
  have Blz := Z
  clear Z
  have Z := Lib.hid (AlAt.below KV.out hb9)
  clear KV
  have KV := Z
  clear Z
  have BB10 := Lib.hid (bThen BB7.out hb9)
  clear hb9
  obtain ⟨hbh, ch0, hxa⟩ := held_at KV.out HX.out
  obtain ⟨hbg, cg0⟩ := got_at KV.out HG.out
  simp only at ch0
  have RX := Lib.hid hxa
  obtain ⟨⟨Ax, cx, hxe, -, -⟩, -, -⟩ := RX.out
  simp only at hxe
  subst hxe
  have zs := blk_lt Bls.out
  have xs0 := cellsAt Bls.out 0
  have xs1 := cellsAt Bls.out 1
  have xs2 := cellsAt Bls.out 2
  have fs := frozAt Bls.out
  simp at xs0 xs1 xs2
  have zt := blk_lt Blt.out
  have xt0 := cellsAt Blt.out 0
  have xt1 := cellsAt Blt.out 1
  have xt2 := cellsAt Blt.out 2
  have xt3 := cellsAt Blt.out 3
  have xt4 := cellsAt Blt.out 4
  have xt5 := cellsAt Blt.out 5
  have xt6 := cellsAt Blt.out 6
  have xt7 := cellsAt Blt.out 7
  have xt8 := cellsAt Blt.out 8
  have xt9 := cellsAt Blt.out 9
  have xt10 := cellsAt Blt.out 10
  have ft := frozAt Blt.out
  simp at xt0 xt1 xt2 xt3 xt4 xt5 xt6 xt7 xt8 xt9 xt10
  have zz := blk_lt Blz.out
  have xz0 := cellsAt Blz.out 0
  have xz1 := cellsAt Blz.out 1
  have xz2 := cellsAt Blz.out 2
  have fz := frozAt Blz.out
  simp at xz0 xz1 xz2
  go_wp2_with fail
  refine (HF.out _ _).mono ?_
  rintro e w11 ⟨rfl, hb12⟩
  clear zs fs xs0 xs1 xs2 zt ft xt0 xt1 xt2 xt3 xt4 xt5 xt6 xt7 xt8 xt9 xt10 zz fz xz0 xz1 xz2
  have Z := Lib.hid (heap_below Bls.out hb12)
  clear Bls
  have Bls := Z
  clear Z
  have Z := Lib.hid (heap_below Blt.out hb12)
  clear Blt
  have Blt := Z
  clear Z
  have Z := Lib.hid (heap_below Blz.out hb12)
  clear Blz
  have Blz := Z
  clear Z
  have Z := Lib.hid (AlAt.below KV.out hb12)
  clear KV
  have KV := Z
  clear Z
  have BB13 := Lib.hid (bThen BB10.out hb12)
  clear hb12
  have zz := blk_lt Blz.out
  have xz0 := cellsAt Blz.out 0
  have xz1 := cellsAt Blz.out 1
  have xz2 := cellsAt Blz.out 2
  have fz := frozAt Blz.out
  simp at xz0 xz1 xz2
  go_wp2_with fail
  have hge2 : w.heap.size ≤ w.heap.size + 1 + 1 := by omega
  have E := blk_set (blk_set (blk_set Blz.out 0 (.int .i64 0)) 1 (.slice none 0 0)) 2 (.slice none 0 0)
  simp at E
  have BE := Lib.hid (((BB13.out.setCell (p := ⟨w.heap.size + 1 + 1, 0, none⟩) hge2 (.int .i64 0)).setCell (p := ⟨w.heap.size + 1 + 1, 1, none⟩) hge2 (.slice none 0 0)).setCell (p := ⟨w.heap.size + 1 + 1, 2, none⟩) hge2 (.slice none 0 0))
  clear zz fz xz0 xz1 xz2
  generalize ((w11.setCell ⟨w.heap.size + 1 + 1, 0, none⟩ (.int .i64 0)).setCell ⟨w.heap.size + 1 + 1, 1, none⟩ (.slice none 0 0)).setCell ⟨w.heap.size + 1 + 1, 2, none⟩ (.slice none 0 0) = W6 at *
  have e0 := cellsAt E 0
  have e1 := cellsAt E 1
  have e2 := cellsAt E 2
  simp at e0 e1 e2
  exact bodyPost_ret (v := .tuple #[.agg #[.int .i64 0, .slice none 0 0, .slice none 0 0], .bool false, .int .i64 0, .slice none 0 0, .int .i64 190]) (by simp [results, Try.results19, go_sem, e0, e1, e2]) rfl ⟨rfl, BE.out⟩
end Go.Proofs.Ytenpgkkefielfaa
