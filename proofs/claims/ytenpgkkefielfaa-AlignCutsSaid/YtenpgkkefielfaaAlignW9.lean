/-
  WALKS of layer 18: Room; the law AlignMakes.
-/
import Derived.Test.YtenpgkkefielfaaAlignW8
set_option linter.unusedVariables false
set_option linter.unusedSimpArgs false
namespace Go.Proofs.Ytenpgkkefielfaa
open Go.RowKit

theorem right_parts {a : Aln} (h : rightA a = true) : a.held.length = a.got.length ∧ a.got.length ≤ 8 ∧ ∀ (k : Nat) (x : Hl), a.held[k]? = some x → x.l.length ≤ 16 := by
  unfold rightA at h
  simp only [Bool.and_eq_true, decide_eq_true_eq, List.all_eq_true, List.mem_range] at h
  obtain ⟨-, h2, h3, -, -, -, -, h8⟩ := h
  refine ⟨h3, h2, fun k x hx => ?_⟩
  have hk := (List.getElem?_eq_some_iff.1 hx).1
  have := h8 k hk
  unfold hAt at this
  rw [List.getElem!_eq_getElem?_getD, hx] at this
  simp only [Bool.and_eq_true, decide_eq_true_eq, Option.getD_some] at this
  exact this.1
theorem al_form3 {W : World} {v : Value} {a : Aln} (h : AlAt W v a) : ∃ l A1 n1 c1 A2 n2 c2, v = .agg #[.int .i64 l, .slice A1 n1 c1, .slice A2 n2 c2] := by
  obtain ⟨Ag, cg, Ah, ch, e, -⟩ := al_form h
  exact ⟨_, _, _, _, _, _, _, e⟩
theorem held_at {W : World} {v1 v2 : Value} {b o n c : Nat} {a : Aln} (h : AlAt W (.agg #[v1, v2, .slice (some ⟨b, o, none⟩) n c]) a) {k : Nat} {x : Hl} (hx : a.held[k]? = some x) :
    b < W.heap.size ∧ W.cell? ⟨b, o + k, none⟩ = some x.row ∧ x.At W := by
  obtain ⟨vg, vh, e, -, -, h4, h5, -⟩ := h
  injection e with e
  injection e with e
  simp at e
  obtain ⟨-, -, rfl⟩ := e
  obtain ⟨b', o', c', e', -, hb, hX⟩ := h4.at_ hx
  injection e' with e1 _ _
  injection e1 with e1
  injection e1 with e1 e2
  subst e1 e2
  have := hX 0 _ rfl
  simp only [Nat.add_zero, Nat.mul_one] at this
  exact ⟨hb, this, h5 x (List.mem_of_getElem? hx)⟩
theorem held_some {W : World} {v1 v2 : Value} {A : Option Addr} {n c : Nat} {a : Aln} (h : AlAt W (.agg #[v1, v2, .slice A n c]) a) (hl : 0 < a.held.length) : ∃ b o, A = some ⟨b, o, none⟩ := by
  obtain ⟨vg, vh, e, -, -, ⟨A', c', e2, -, h2⟩, -, -⟩ := h
  injection e with e
  injection e with e
  simp at e
  obtain ⟨-, -, rfl⟩ := e
  injection e2 with e2
  obtain ⟨b, o, h3, -⟩ := h2 hl
  exact ⟨b, o, e2.trans h3⟩
theorem keepA9 {W w' w'' : World} {ga gb gc : Nat} {va0 va1 va2 vb0 vb1 vb2 vc0 vc1 vc2 : Value} (hga : ga < W.heap.size) (hgb : gb < W.heap.size) (hgc : gc < W.heap.size) (h : Below W.heap.size W w' ∧ w'.cell? ⟨ga, 0, none⟩ = some va0 ∧ w'.cell? ⟨ga, 1, none⟩ = some va1 ∧ w'.cell? ⟨ga, 2, none⟩ = some va2 ∧ w'.cell? ⟨gb, 0, none⟩ = some vb0 ∧ w'.cell? ⟨gb, 1, none⟩ = some vb1 ∧ w'.cell? ⟨gb, 2, none⟩ = some vb2 ∧ w'.cell? ⟨gc, 0, none⟩ = some vc0 ∧ w'.cell? ⟨gc, 1, none⟩ = some vc1 ∧ w'.cell? ⟨gc, 2, none⟩ = some vc2) (hb : Below w'.heap.size w' w'') : Below W.heap.size W w'' ∧ w''.cell? ⟨ga, 0, none⟩ = some va0 ∧ w''.cell? ⟨ga, 1, none⟩ = some va1 ∧ w''.cell? ⟨ga, 2, none⟩ = some va2 ∧ w''.cell? ⟨gb, 0, none⟩ = some vb0 ∧ w''.cell? ⟨gb, 1, none⟩ = some vb1 ∧ w''.cell? ⟨gb, 2, none⟩ = some vb2 ∧ w''.cell? ⟨gc, 0, none⟩ = some vc0 ∧ w''.cell? ⟨gc, 1, none⟩ = some vc1 ∧ w''.cell? ⟨gc, 2, none⟩ = some vc2 := by
  obtain ⟨b, c0, c1, c2, c3, c4, c5, c6, c7, c8⟩ := h
  have hs := b.size
  exact ⟨b.trans (hb.mono hs), (hb.cell (p := ⟨ga, 0, none⟩) (Nat.lt_of_lt_of_le hga hs)).trans c0, (hb.cell (p := ⟨ga, 1, none⟩) (Nat.lt_of_lt_of_le hga hs)).trans c1, (hb.cell (p := ⟨ga, 2, none⟩) (Nat.lt_of_lt_of_le hga hs)).trans c2, (hb.cell (p := ⟨gb, 0, none⟩) (Nat.lt_of_lt_of_le hgb hs)).trans c3, (hb.cell (p := ⟨gb, 1, none⟩) (Nat.lt_of_lt_of_le hgb hs)).trans c4, (hb.cell (p := ⟨gb, 2, none⟩) (Nat.lt_of_lt_of_le hgb hs)).trans c5, (hb.cell (p := ⟨gc, 0, none⟩) (Nat.lt_of_lt_of_le hgc hs)).trans c6, (hb.cell (p := ⟨gc, 1, none⟩) (Nat.lt_of_lt_of_le hgc hs)).trans c7, (hb.cell (p := ⟨gc, 2, none⟩) (Nat.lt_of_lt_of_le hgc hs)).trans c8⟩
theorem keepA9D {W w' : World} {ga gb gc : Nat} {va0 va1 va2 vb0 vb1 vb2 vc0 vc1 vc2 : Value} (h : Below W.heap.size W w' ∧ w'.cell? ⟨ga, 0, none⟩ = some va0 ∧ w'.cell? ⟨ga, 1, none⟩ = some va1 ∧ w'.cell? ⟨ga, 2, none⟩ = some va2 ∧ w'.cell? ⟨gb, 0, none⟩ = some vb0 ∧ w'.cell? ⟨gb, 1, none⟩ = some vb1 ∧ w'.cell? ⟨gb, 2, none⟩ = some vb2 ∧ w'.cell? ⟨gc, 0, none⟩ = some vc0 ∧ w'.cell? ⟨gc, 1, none⟩ = some vc1 ∧ w'.cell? ⟨gc, 2, none⟩ = some vc2) : Below W.heap.size W w'.drew ∧ w'.drew.cell? ⟨ga, 0, none⟩ = some va0 ∧ w'.drew.cell? ⟨ga, 1, none⟩ = some va1 ∧ w'.drew.cell? ⟨ga, 2, none⟩ = some va2 ∧ w'.drew.cell? ⟨gb, 0, none⟩ = some vb0 ∧ w'.drew.cell? ⟨gb, 1, none⟩ = some vb1 ∧ w'.drew.cell? ⟨gb, 2, none⟩ = some vb2 ∧ w'.drew.cell? ⟨gc, 0, none⟩ = some vc0 ∧ w'.drew.cell? ⟨gc, 1, none⟩ = some vc1 ∧ w'.drew.cell? ⟨gc, 2, none⟩ = some vc2 := ⟨h.1.drew, h.2⟩
set_option maxRecDepth 100000 in
set_option maxHeartbeats 2000000 in
theorem aroom_any (a : Aln) (i : Int) (hi : wfL i) (v : Value) (w : World) (hv : AlAt w v a) :
    Calls Try.prog 25 #[v, .int .i64 i] w fun e w' => e = .returned (.int .i64 (roomA a i)) ∧ Below w.heap.size w w' := by
  have HV := Lib.hid hv
  have HH := Lib.hid (fun v W hW => ahas_any a i hi v W hW)
  obtain ⟨Ag, cg, Ah, ch, rfl, -, -, -, -, hlg, hlh⟩ := al_form hv
  unfold maxLen at hlg hlh
  obtain ⟨lg, hlg'⟩ : ∃ n, a.got.length = n := ⟨_, rfl⟩
  obtain ⟨lh, hlh'⟩ : ∃ n, a.held.length = n := ⟨_, rfl⟩
  have HLG := Lib.hid hlg'
  have HLH := Lib.hid hlh'
  rw [hlg', hlh'] at HV
  rw [hlg'] at hlg
  rw [hlh'] at hlh
  rw [hlg', hlh']
  unfold wfL at hi
  clear hv
  by_cases hq : rightA a = true ∧ 0 ≤ i ∧ i < a.got.length
  · rw [decide_eq_true hq] at HH
    have hr : roomA a i = 16 - (a.held[i.toNat]!.l.length : Int) := by unfold roomA; rw [if_pos hq]
    rw [hr]
    obtain ⟨h1, h2, h3⟩ := hq
    obtain ⟨p1, p2, p3⟩ := right_parts h1
    obtain ⟨N, rfl⟩ : ∃ N : Nat, i = N := ⟨i.toNat, by omega⟩
    obtain ⟨x, hx⟩ : ∃ x, a.held[N]? = some x := ⟨_, List.getElem?_eq_getElem (by omega)⟩
    have hl := p3 N x hx
    rw [Int.toNat_natCast, List.getElem!_eq_getElem?_getD, hx, Option.getD_some]
    obtain ⟨b0, o0, rfl⟩ := held_some HV.out (by omega)
    have HX := Lib.hid hx
    have hNl : N < lh := by omega
    have hNi : (0 : Int) ≤ (N : Int) := by omega
    have hNi2 : (N : Int) < (lh : Int) := by omega
    clear hx hr h1 h2 h3 p1 p2 p3 hlg' hlh'
    go_enter Try.func25, Try.ntmps25
    go_wp2_with fail
    have KV := HV
    obtain ⟨W1, hW2⟩ : ∃ X, X = (w).alloc (.cells #[.int .i64 a.n, .slice Ag lg cg, .slice (some ⟨b0, o0, none⟩) lh ch] 26) := ⟨_, rfl⟩
    rw [← hW2]
    have hb3 : Below w.heap.size w W1 := by rw [hW2]; exact bel_alloc (Below.refl _ _) _
    have Ns := Lib.hid (show W1.heap[w.heap.size]? = some (.cells #[.int .i64 a.n, .slice Ag lg cg, .slice (some ⟨b0, o0, none⟩) lh ch] 26 (0, 0)) by rw [hW2]; exact heap_at (w) _ (w.heap.size) (by simp))
    clear hW2
    have Z := Lib.hid (AlAt.below KV.out hb3)
    clear KV
    have KV := Z
    clear Z
    have BB4 := Lib.hid hb3
    clear hb3
    have Bls := Ns
    clear Ns
    refine (HH.out _ _ KV.out).mono ?_
    rintro e w5 ⟨rfl, hb6⟩
    have Z := Lib.hid (heap_below Bls.out hb6)
    clear Bls
    have Bls := Z
    clear Z
    have Z := Lib.hid (AlAt.below KV.out hb6)
    clear KV
    have KV := Z
    clear Z
    have BB7 := Lib.hid (bThen BB4.out hb6)
    clear hb6
    have zs := blk_lt Bls.out
    have xs0 := cellsAt Bls.out 0
    have xs1 := cellsAt Bls.out 1
    have xs2 := cellsAt Bls.out 2
    have fs := frozAt Bls.out
    simp at xs0 xs1 xs2
    obtain ⟨hb0, c0, hxa⟩ := held_at KV.out HX.out
    obtain ⟨⟨Ax, cx, hxe, -, -⟩, -, -⟩ := hxa
    clear HX
    obtain ⟨xr, xl⟩ := x
    simp only at hxe c0 hl ⊢
    subst hxe
    have hw1 : IntKind.i64.wrap (16 - (xl.length : Int)) = 16 - (xl.length : Int) := by rw [IntKind.wrap_i64]; omega
    go_wp2_with fail
    go_ret
    exact ⟨rfl, BB7.out⟩
  · rw [decide_eq_false hq] at HH
    have hr : roomA a i = 0 := by unfold roomA; rw [if_neg hq]
    rw [hr]
    clear hr hq hlg' hlh'
    go_enter Try.func25, Try.ntmps25
    go_wp2_with fail
    have KV := HV
    obtain ⟨W1, hW2⟩ : ∃ X, X = (w).alloc (.cells #[.int .i64 a.n, .slice Ag lg cg, .slice Ah lh ch] 26) := ⟨_, rfl⟩
    rw [← hW2]
    have hb3 : Below w.heap.size w W1 := by rw [hW2]; exact bel_alloc (Below.refl _ _) _
    have Ns := Lib.hid (show W1.heap[w.heap.size]? = some (.cells #[.int .i64 a.n, .slice Ag lg cg, .slice Ah lh ch] 26 (0, 0)) by rw [hW2]; exact heap_at (w) _ (w.heap.size) (by simp))
    clear hW2
    have Z := Lib.hid (AlAt.below KV.out hb3)
    clear KV
    have KV := Z
    clear Z
    have BB4 := Lib.hid hb3
    clear hb3
    have Bls := Ns
    clear Ns
    refine (HH.out _ _ KV.out).mono ?_
    rintro e w5 ⟨rfl, hb6⟩
    have Z := Lib.hid (heap_below Bls.out hb6)
    clear Bls
    have Bls := Z
    clear Z
    have Z := Lib.hid (AlAt.below KV.out hb6)
    clear KV
    have KV := Z
    clear Z
    have BB7 := Lib.hid (bThen BB4.out hb6)
    clear hb6
    have zs := blk_lt Bls.out
    have xs0 := cellsAt Bls.out 0
    have xs1 := cellsAt Bls.out 1
    have xs2 := cellsAt Bls.out 2
    have fs := frozAt Bls.out
    simp at xs0 xs1 xs2
    go_wp2_with fail
    go_ret
    exact ⟨rfl, BB7.out⟩
set_option maxRecDepth 100000 in
set_option maxHeartbeats 8000000 in
theorem makesA_walk (n : Int) (a : Aln) (i : Int) (hi : wfL i) (v : Value) (w : World) (hv : AlAt w v a) :
    Calls Try.prog 6 #[.int .i64 n, v, .int .i64 i] w fun e w' => e = .returned (.bool true) ∧ Below w.heap.size w w' := by
  have HV := Lib.hid hv
  have HS := Lib.hid (fun v W hW => asmall_any a v W hW)
  have HN := Lib.hid (fun W => anew_all n W)
  have HM := Lib.hid (fun W => ranew_all n W)
  unfold NwTo at HN HM
  obtain ⟨er, her⟩ : ∃ er, nwE n = er := ⟨_, rfl⟩
  rw [her] at HN HM
  obtain ⟨q, hq⟩ : ∃ q, rightA a = q := ⟨_, rfl⟩
  have HR := Lib.hid (fun v W hW => aright_any a v W hW q hq)
  have HQ := Lib.hid (fun v W hW => raright_any a v W hW q hq)
  have HO := Lib.hid (fun v W hW => aroom_any a i hi v W hW)
  have Hq := Lib.hid hq
  obtain ⟨Ag, cg, Ah, ch, rfl, -, -, -, -, hlg, hlh⟩ := al_form hv
  unfold maxLen at hlg hlh
  unfold wfL at hi
  obtain ⟨lg, hlg'⟩ : ∃ n, a.got.length = n := ⟨_, rfl⟩
  obtain ⟨lh, hlh'⟩ : ∃ n, a.held.length = n := ⟨_, rfl⟩
  have HLG := Lib.hid hlg'
  have HLH := Lib.hid hlh'
  rw [hlg', hlh'] at HV
  rw [hlg'] at hlg
  rw [hlh'] at hlh
  rw [hlg', hlh']
  clear hv hlg' hlh' her hq
  go_enter Try.func6, Try.ntmps6
  go_wp2_with fail
  have KV := HV
  obtain ⟨W1, hW2⟩ : ∃ X, X = (w).alloc (.cells #[.int .i64 a.n, .slice Ag lg cg, .slice Ah lh ch] 26) := ⟨_, rfl⟩
  rw [← hW2]
  have hb3 : Below w.heap.size w W1 := by rw [hW2]; exact bel_alloc (Below.refl _ _) _
  have Ns := Lib.hid (show W1.heap[w.heap.size]? = some (.cells #[.int .i64 a.n, .slice Ag lg cg, .slice Ah lh ch] 26 (0, 0)) by rw [hW2]; exact heap_at (w) _ (w.heap.size) (by simp))
  clear hW2
  have Z := Lib.hid (AlAt.below KV.out hb3)
  clear KV
  have KV := Z
  clear Z
  have BB4 := Lib.hid hb3
  clear hb3
  have Bls := Ns
  clear Ns
  refine (HS.out _ _ KV.out).mono ?_
  rintro e w5 ⟨⟨qs, rfl⟩, hb6⟩
  have Z := Lib.hid (heap_below Bls.out hb6)
  clear Bls
  have Bls := Z
  clear Z
  have Z := Lib.hid (AlAt.below KV.out hb6)
  clear KV
  have KV := Z
  clear Z
  have BB7 := Lib.hid (bThen BB4.out hb6)
  clear hb6
  have zs := blk_lt Bls.out
  have xs0 := cellsAt Bls.out 0
  have xs1 := cellsAt Bls.out 1
  have xs2 := cellsAt Bls.out 2
  have fs := frozAt Bls.out
  simp at xs0 xs1 xs2
  cases qs with
  | false =>
    go_wp2_with fail
    go_ret
    exact ⟨rfl, BB7.out⟩
  | true =>
  go_wp2_with fail
  refine (HN.out _).mono ?_
  rintro e w8 ⟨⟨vx, rfl, hkx⟩, hb9⟩
  clear zs fs xs0 xs1 xs2
  have Z := Lib.hid (heap_below Bls.out hb9)
  clear Bls
  have Bls := Z
  clear Z
  have Z := Lib.hid (AlAt.below KV.out hb9)
  clear KV
  have KV := Z
  clear Z
  have BB10 := Lib.hid (bThen BB7.out hb9)
  clear hb9
  have Kx := Lib.hid hkx
  clear hkx
  obtain ⟨lx, A1x, n1x, c1x, A2x, n2x, c2x, rfl⟩ := al_form3 Kx.out
  go_wp2_with fail
  obtain ⟨W11, hW12⟩ : ∃ X, X = (w8).alloc (.cells #[.int .i64 lx, .slice A1x n1x c1x, .slice A2x n2x c2x] 26) := ⟨_, rfl⟩
  rw [← hW12]
  have hb13 : Below w8.heap.size w8 W11 := by rw [hW12]; exact bel_alloc (Below.refl _ _) _
  have Nx := Lib.hid (show W11.heap[w8.heap.size]? = some (.cells #[.int .i64 lx, .slice A1x n1x c1x, .slice A2x n2x c2x] 26 (0, 0)) by rw [hW12]; exact heap_at (w8) _ (w8.heap.size) (by simp))
  clear hW12
  have Z := Lib.hid (heap_below Bls.out hb13)
  clear Bls
  have Bls := Z
  clear Z
  have Z := Lib.hid (AlAt.below KV.out hb13)
  clear KV
  have KV := Z
  clear Z
  have Z := Lib.hid (AlAt.below Kx.out hb13)
  clear Kx
  have Kx := Z
  clear Z
  have BB14 := Lib.hid (bThen BB10.out hb13)
  clear hb13
  have Blx := Nx
  clear Nx
  refine (HM.out _).mono ?_
  rintro e w15 ⟨⟨vy, rfl, hky⟩, hb16⟩
  have Z := Lib.hid (heap_below Bls.out hb16)
  clear Bls
  have Bls := Z
  clear Z
  have Z := Lib.hid (heap_below Blx.out hb16)
  clear Blx
  have Blx := Z
  clear Z
  have Z := Lib.hid (AlAt.below KV.out hb16)
  clear KV
  have KV := Z
  clear Z
  have Z := Lib.hid (AlAt.below Kx.out hb16)
  clear Kx
  have Kx := Z
  clear Z
  have BB17 := Lib.hid (bThen BB14.out hb16)
  clear hb16
  have Ky := Lib.hid hky
  clear hky
  obtain ⟨ly, A1y, n1y, c1y, A2y, n2y, c2y, rfl⟩ := al_form3 Ky.out
  have zs := blk_lt Bls.out
  have xs0 := cellsAt Bls.out 0
  have xs1 := cellsAt Bls.out 1
  have xs2 := cellsAt Bls.out 2
  have fs := frozAt Bls.out
  simp at xs0 xs1 xs2
  go_wp2_with fail
  obtain ⟨W18, hW19⟩ : ∃ X, X = (w15).alloc (.cells #[.int .i64 ly, .slice A1y n1y c1y, .slice A2y n2y c2y] 26) := ⟨_, rfl⟩
  rw [← hW19]
  have hb20 : Below w15.heap.size w15 W18 := by rw [hW19]; exact bel_alloc (Below.refl _ _) _
  have Ny := Lib.hid (show W18.heap[w15.heap.size]? = some (.cells #[.int .i64 ly, .slice A1y n1y c1y, .slice A2y n2y c2y] 26 (0, 0)) by rw [hW19]; exact heap_at (w15) _ (w15.heap.size) (by simp))
  clear hW19
  have Z := Lib.hid (heap_below Bls.out hb20)
  clear Bls
  have Bls := Z
  clear Z
  have Z := Lib.hid (heap_below Blx.out hb20)
  clear Blx
  have Blx := Z
  clear Z
  have Z := Lib.hid (AlAt.below KV.out hb20)
  clear KV
  have KV := Z
  clear Z
  have Z := Lib.hid (AlAt.below Kx.out hb20)
  clear Kx
  have Kx := Z
  clear Z
  have Z := Lib.hid (AlAt.below Ky.out hb20)
  clear Ky
  have Ky := Z
  clear Z
  have BB21 := Lib.hid (bThen BB17.out hb20)
  clear hb20
  have Bly := Ny
  clear Ny
  clear zs fs xs0 xs1 xs2
  have zs := blk_lt Bls.out
  have xs0 := cellsAt Bls.out 0
  have xs1 := cellsAt Bls.out 1
  have xs2 := cellsAt Bls.out 2
  have fs := frozAt Bls.out
  simp at xs0 xs1 xs2
  refine (HQ.out _ _ KV.out).mono ?_
  rintro e w22 ⟨rfl, hb23⟩
  clear zs fs xs0 xs1 xs2
  have Z := Lib.hid (heap_below Bls.out hb23)
  clear Bls
  have Bls := Z
  clear Z
  have Z := Lib.hid (heap_below Blx.out hb23)
  clear Blx
  have Blx := Z
  clear Z
  have Z := Lib.hid (heap_below Bly.out hb23)
  clear Bly
  have Bly := Z
  clear Z
  have Z := Lib.hid (AlAt.below KV.out hb23)
  clear KV
  have KV := Z
  clear Z
  have Z := Lib.hid (AlAt.below Kx.out hb23)
  clear Kx
  have Kx := Z
  clear Z
  have Z := Lib.hid (AlAt.below Ky.out hb23)
  clear Ky
  have Ky := Z
  clear Z
  have BB24 := Lib.hid (bThen BB21.out hb23)
  clear hb23
  have zs := blk_lt Bls.out
  have xs0 := cellsAt Bls.out 0
  have xs1 := cellsAt Bls.out 1
  have xs2 := cellsAt Bls.out 2
  have fs := frozAt Bls.out
  simp at xs0 xs1 xs2
  cases q with
  | false =>
    have hr0 : roomA a i = 0 := by unfold roomA; rw [if_neg (by rw [Hq.out]; simp)]
    rw [hr0] at HO
    clear hr0
    go_wp2_with fail
    clear zs fs xs0 xs1 xs2
    have gzs := blk_lt Bls.out
    have gzx := blk_lt Blx.out
    have gzy := blk_lt Bly.out
    have hS : Below w22.heap.size w22 w22 ∧ w22.cell? ⟨w.heap.size, 0, none⟩ = some (.int .i64 a.n) ∧ w22.cell? ⟨w.heap.size, 1, none⟩ = some (.slice Ag lg cg) ∧ w22.cell? ⟨w.heap.size, 2, none⟩ = some (.slice Ah lh ch) ∧ w22.cell? ⟨w8.heap.size, 0, none⟩ = some (.int .i64 lx) ∧ w22.cell? ⟨w8.heap.size, 1, none⟩ = some (.slice A1x n1x c1x) ∧ w22.cell? ⟨w8.heap.size, 2, none⟩ = some (.slice A2x n2x c2x) ∧ w22.cell? ⟨w15.heap.size, 0, none⟩ = some (.int .i64 ly) ∧ w22.cell? ⟨w15.heap.size, 1, none⟩ = some (.slice A1y n1y c1y) ∧ w22.cell? ⟨w15.heap.size, 2, none⟩ = some (.slice A2y n2y c2y) := ⟨Below.refl _ _, cellsAt Bls.out 0, cellsAt Bls.out 1, cellsAt Bls.out 2, cellsAt Blx.out 0, cellsAt Blx.out 1, cellsAt Blx.out 2, cellsAt Bly.out 0, cellsAt Bly.out 1, cellsAt Bly.out 2⟩
    have CL := Lib.hid (fun w' (hb : Below w22.heap.size w22 w') => alike_any _ _ (likeA_self (nwA n)) _ _ w' (Kx.out.below hb) (Ky.out.below hb))
    have CR := Lib.hid (fun w' (hb : Below w22.heap.size w22 w') => HR.out _ w' (KV.out.below hb))
    have CQ := Lib.hid (fun w' (hb : Below w22.heap.size w22 w') => HQ.out _ w' (KV.out.below hb))
    have CO := Lib.hid (fun w' (hb : Below w22.heap.size w22 w') => HO.out _ w' (KV.out.below hb))
    clear Kx Ky KV HR HQ HO HS HN HM HV Bls Blx Bly Hq HLG HLH
    go_region_held3 (fun w' => Below w22.heap.size w22 w' ∧ w'.cell? ⟨w.heap.size, 0, none⟩ = some (.int .i64 a.n) ∧ w'.cell? ⟨w.heap.size, 1, none⟩ = some (.slice Ag lg cg) ∧ w'.cell? ⟨w.heap.size, 2, none⟩ = some (.slice Ah lh ch) ∧ w'.cell? ⟨w8.heap.size, 0, none⟩ = some (.int .i64 lx) ∧ w'.cell? ⟨w8.heap.size, 1, none⟩ = some (.slice A1x n1x c1x) ∧ w'.cell? ⟨w8.heap.size, 2, none⟩ = some (.slice A2x n2x c2x) ∧ w'.cell? ⟨w15.heap.size, 0, none⟩ = some (.int .i64 ly) ∧ w'.cell? ⟨w15.heap.size, 1, none⟩ = some (.slice A1y n1y c1y) ∧ w'.cell? ⟨w15.heap.size, 2, none⟩ = some (.slice A2y n2y c2y)) (first | assumption | exact keepA9D (by assumption) | exact keepA9 (by assumption) (by assumption) (by assumption) (by assumption) (by assumption)) (first | (go_at_call 15; refine (aalive_any _).mono ?_; rintro e wx ⟨rfl, hbx⟩) | (go_at_call 23; refine (CL.out _ (And.left (by assumption))).mono ?_; rintro e wx ⟨rfl, hbx⟩) | (go_at_call 22; refine (CR.out _ (And.left (by assumption))).mono ?_; rintro e wx ⟨rfl, hbx⟩) | (go_at_call 27; refine (CQ.out _ (And.left (by assumption))).mono ?_; rintro e wx ⟨rfl, hbx⟩) | (go_at_call 25; refine (CO.out _ (And.left (by assumption))).mono ?_; rintro e wx ⟨rfl, hbx⟩))
    go_wp2_with fail
    go_ret
    exact ⟨rfl, bThen BB24.out (by first | assumption | exact And.left (by assumption))⟩
  | true =>
  by_cases h1 : 0 ≤ i
  · have t1 : decide (0 ≤ i) = true := by simpa using h1
    by_cases h2 : i < lg
    · have t2 : decide (i < (lg : Int)) = true := by simpa using h2
      have hr0 : roomA a i = 16 - (a.held[i.toNat]!.l.length : Int) := by unfold roomA; rw [if_pos ⟨Hq.out, h1, by rw [HLG.out]; exact h2⟩]
      rw [hr0] at HO
      obtain ⟨p1, p2, p3⟩ := right_parts Hq.out
      rw [HLG.out, HLH.out] at p1
      obtain ⟨N, rfl⟩ : ∃ N : Nat, i = N := ⟨i.toNat, by omega⟩
      obtain ⟨x, hx⟩ : ∃ x, a.held[N]? = some x := ⟨_, List.getElem?_eq_getElem (by rw [HLH.out]; omega)⟩
      have hl := p3 N x hx
      rw [Int.toNat_natCast, List.getElem!_eq_getElem?_getD, hx, Option.getD_some] at HO
      obtain ⟨b0, o0, rfl⟩ := held_some KV.out (by rw [HLH.out]; omega)
      obtain ⟨hb0, c0, hxa⟩ := held_at KV.out hx
      obtain ⟨⟨Ax, cx, hxe, -, -⟩, -, -⟩ := hxa
      clear hx hr0 p1 p2 p3
      obtain ⟨xr, xl⟩ := x
      simp only at hxe c0 hl HO
      subst hxe
      have hw1 : IntKind.i64.wrap (16 - (xl.length : Int)) = 16 - (xl.length : Int) := by rw [IntKind.wrap_i64]; omega
      have hNi : (0 : Int) ≤ (N : Int) := by omega
      have hNi2 : (N : Int) < (lh : Int) := by rw [show lh = lg by have := (right_parts Hq.out).1; rw [HLH.out, HLG.out] at this; exact this]; exact h2
      clear zs fs xs0 xs1 xs2
      have zs := blk_lt Bls.out
      have xs0 := cellsAt Bls.out 0
      have xs1 := cellsAt Bls.out 1
      have xs2 := cellsAt Bls.out 2
      have fs := frozAt Bls.out
      simp at xs0 xs1 xs2
      go_wp2_with fail
      clear zs fs xs0 xs1 xs2
      have gzs := blk_lt Bls.out
      have gzx := blk_lt Blx.out
      have gzy := blk_lt Bly.out
      have hS : Below w22.heap.size w22 w22 ∧ w22.cell? ⟨w.heap.size, 0, none⟩ = some (.int .i64 a.n) ∧ w22.cell? ⟨w.heap.size, 1, none⟩ = some (.slice Ag lg cg) ∧ w22.cell? ⟨w.heap.size, 2, none⟩ = some (.slice (some ⟨b0, o0, none⟩) lh ch) ∧ w22.cell? ⟨w8.heap.size, 0, none⟩ = some (.int .i64 lx) ∧ w22.cell? ⟨w8.heap.size, 1, none⟩ = some (.slice A1x n1x c1x) ∧ w22.cell? ⟨w8.heap.size, 2, none⟩ = some (.slice A2x n2x c2x) ∧ w22.cell? ⟨w15.heap.size, 0, none⟩ = some (.int .i64 ly) ∧ w22.cell? ⟨w15.heap.size, 1, none⟩ = some (.slice A1y n1y c1y) ∧ w22.cell? ⟨w15.heap.size, 2, none⟩ = some (.slice A2y n2y c2y) := ⟨Below.refl _ _, cellsAt Bls.out 0, cellsAt Bls.out 1, cellsAt Bls.out 2, cellsAt Blx.out 0, cellsAt Blx.out 1, cellsAt Blx.out 2, cellsAt Bly.out 0, cellsAt Bly.out 1, cellsAt Bly.out 2⟩
      have CL := Lib.hid (fun w' (hb : Below w22.heap.size w22 w') => alike_any _ _ (likeA_self (nwA n)) _ _ w' (Kx.out.below hb) (Ky.out.below hb))
      have CR := Lib.hid (fun w' (hb : Below w22.heap.size w22 w') => HR.out _ w' (KV.out.below hb))
      have CQ := Lib.hid (fun w' (hb : Below w22.heap.size w22 w') => HQ.out _ w' (KV.out.below hb))
      have CO := Lib.hid (fun w' (hb : Below w22.heap.size w22 w') => HO.out _ w' (KV.out.below hb))
      clear Kx Ky KV HR HQ HO HS HN HM HV Bls Blx Bly Hq HLG HLH
      go_region_held3 (fun w' => Below w22.heap.size w22 w' ∧ w'.cell? ⟨w.heap.size, 0, none⟩ = some (.int .i64 a.n) ∧ w'.cell? ⟨w.heap.size, 1, none⟩ = some (.slice Ag lg cg) ∧ w'.cell? ⟨w.heap.size, 2, none⟩ = some (.slice (some ⟨b0, o0, none⟩) lh ch) ∧ w'.cell? ⟨w8.heap.size, 0, none⟩ = some (.int .i64 lx) ∧ w'.cell? ⟨w8.heap.size, 1, none⟩ = some (.slice A1x n1x c1x) ∧ w'.cell? ⟨w8.heap.size, 2, none⟩ = some (.slice A2x n2x c2x) ∧ w'.cell? ⟨w15.heap.size, 0, none⟩ = some (.int .i64 ly) ∧ w'.cell? ⟨w15.heap.size, 1, none⟩ = some (.slice A1y n1y c1y) ∧ w'.cell? ⟨w15.heap.size, 2, none⟩ = some (.slice A2y n2y c2y)) (first | assumption | exact keepA9D (by assumption) | exact keepA9 (by assumption) (by assumption) (by assumption) (by assumption) (by assumption)) (first | (go_at_call 15; refine (aalive_any _).mono ?_; rintro e wx ⟨rfl, hbx⟩) | (go_at_call 23; refine (CL.out _ (And.left (by assumption))).mono ?_; rintro e wx ⟨rfl, hbx⟩) | (go_at_call 22; refine (CR.out _ (And.left (by assumption))).mono ?_; rintro e wx ⟨rfl, hbx⟩) | (go_at_call 27; refine (CQ.out _ (And.left (by assumption))).mono ?_; rintro e wx ⟨rfl, hbx⟩) | (go_at_call 25; refine (CO.out _ (And.left (by assumption))).mono ?_; rintro e wx ⟨rfl, hbx⟩))
      go_wp2_with fail
      go_ret
      exact ⟨rfl, bThen BB24.out (by first | assumption | exact And.left (by assumption))⟩
    · have t2 : decide (i < (lg : Int)) = false := by simpa using h2
      have hr0 : roomA a i = 0 := by unfold roomA; rw [if_neg (by rw [HLG.out]; omega)]
      rw [hr0] at HO
      clear hr0
      go_wp2_with fail
      clear zs fs xs0 xs1 xs2
      have gzs := blk_lt Bls.out
      have gzx := blk_lt Blx.out
      have gzy := blk_lt Bly.out
      have hS : Below w22.heap.size w22 w22 ∧ w22.cell? ⟨w.heap.size, 0, none⟩ = some (.int .i64 a.n) ∧ w22.cell? ⟨w.heap.size, 1, none⟩ = some (.slice Ag lg cg) ∧ w22.cell? ⟨w.heap.size, 2, none⟩ = some (.slice Ah lh ch) ∧ w22.cell? ⟨w8.heap.size, 0, none⟩ = some (.int .i64 lx) ∧ w22.cell? ⟨w8.heap.size, 1, none⟩ = some (.slice A1x n1x c1x) ∧ w22.cell? ⟨w8.heap.size, 2, none⟩ = some (.slice A2x n2x c2x) ∧ w22.cell? ⟨w15.heap.size, 0, none⟩ = some (.int .i64 ly) ∧ w22.cell? ⟨w15.heap.size, 1, none⟩ = some (.slice A1y n1y c1y) ∧ w22.cell? ⟨w15.heap.size, 2, none⟩ = some (.slice A2y n2y c2y) := ⟨Below.refl _ _, cellsAt Bls.out 0, cellsAt Bls.out 1, cellsAt Bls.out 2, cellsAt Blx.out 0, cellsAt Blx.out 1, cellsAt Blx.out 2, cellsAt Bly.out 0, cellsAt Bly.out 1, cellsAt Bly.out 2⟩
      have CL := Lib.hid (fun w' (hb : Below w22.heap.size w22 w') => alike_any _ _ (likeA_self (nwA n)) _ _ w' (Kx.out.below hb) (Ky.out.below hb))
      have CR := Lib.hid (fun w' (hb : Below w22.heap.size w22 w') => HR.out _ w' (KV.out.below hb))
      have CQ := Lib.hid (fun w' (hb : Below w22.heap.size w22 w') => HQ.out _ w' (KV.out.below hb))
      have CO := Lib.hid (fun w' (hb : Below w22.heap.size w22 w') => HO.out _ w' (KV.out.below hb))
      clear Kx Ky KV HR HQ HO HS HN HM HV Bls Blx Bly Hq HLG HLH
      go_region_held3 (fun w' => Below w22.heap.size w22 w' ∧ w'.cell? ⟨w.heap.size, 0, none⟩ = some (.int .i64 a.n) ∧ w'.cell? ⟨w.heap.size, 1, none⟩ = some (.slice Ag lg cg) ∧ w'.cell? ⟨w.heap.size, 2, none⟩ = some (.slice Ah lh ch) ∧ w'.cell? ⟨w8.heap.size, 0, none⟩ = some (.int .i64 lx) ∧ w'.cell? ⟨w8.heap.size, 1, none⟩ = some (.slice A1x n1x c1x) ∧ w'.cell? ⟨w8.heap.size, 2, none⟩ = some (.slice A2x n2x c2x) ∧ w'.cell? ⟨w15.heap.size, 0, none⟩ = some (.int .i64 ly) ∧ w'.cell? ⟨w15.heap.size, 1, none⟩ = some (.slice A1y n1y c1y) ∧ w'.cell? ⟨w15.heap.size, 2, none⟩ = some (.slice A2y n2y c2y)) (first | assumption | exact keepA9D (by assumption) | exact keepA9 (by assumption) (by assumption) (by assumption) (by assumption) (by assumption)) (first | (go_at_call 15; refine (aalive_any _).mono ?_; rintro e wx ⟨rfl, hbx⟩) | (go_at_call 23; refine (CL.out _ (And.left (by assumption))).mono ?_; rintro e wx ⟨rfl, hbx⟩) | (go_at_call 22; refine (CR.out _ (And.left (by assumption))).mono ?_; rintro e wx ⟨rfl, hbx⟩) | (go_at_call 27; refine (CQ.out _ (And.left (by assumption))).mono ?_; rintro e wx ⟨rfl, hbx⟩) | (go_at_call 25; refine (CO.out _ (And.left (by assumption))).mono ?_; rintro e wx ⟨rfl, hbx⟩))
      go_wp2_with fail
      go_ret
      exact ⟨rfl, bThen BB24.out (by first | assumption | exact And.left (by assumption))⟩
  · have t1 : decide (0 ≤ i) = false := by simpa using h1
    have hr0 : roomA a i = 0 := by unfold roomA; rw [if_neg (by omega)]
    rw [hr0] at HO
    clear hr0
    go_wp2_with fail
    clear zs fs xs0 xs1 xs2
    have gzs := blk_lt Bls.out
    have gzx := blk_lt Blx.out
    have gzy := blk_lt Bly.out
    have hS : Below w22.heap.size w22 w22 ∧ w22.cell? ⟨w.heap.size, 0, none⟩ = some (.int .i64 a.n) ∧ w22.cell? ⟨w.heap.size, 1, none⟩ = some (.slice Ag lg cg) ∧ w22.cell? ⟨w.heap.size, 2, none⟩ = some (.slice Ah lh ch) ∧ w22.cell? ⟨w8.heap.size, 0, none⟩ = some (.int .i64 lx) ∧ w22.cell? ⟨w8.heap.size, 1, none⟩ = some (.slice A1x n1x c1x) ∧ w22.cell? ⟨w8.heap.size, 2, none⟩ = some (.slice A2x n2x c2x) ∧ w22.cell? ⟨w15.heap.size, 0, none⟩ = some (.int .i64 ly) ∧ w22.cell? ⟨w15.heap.size, 1, none⟩ = some (.slice A1y n1y c1y) ∧ w22.cell? ⟨w15.heap.size, 2, none⟩ = some (.slice A2y n2y c2y) := ⟨Below.refl _ _, cellsAt Bls.out 0, cellsAt Bls.out 1, cellsAt Bls.out 2, cellsAt Blx.out 0, cellsAt Blx.out 1, cellsAt Blx.out 2, cellsAt Bly.out 0, cellsAt Bly.out 1, cellsAt Bly.out 2⟩
    have CL := Lib.hid (fun w' (hb : Below w22.heap.size w22 w') => alike_any _ _ (likeA_self (nwA n)) _ _ w' (Kx.out.below hb) (Ky.out.below hb))
    have CR := Lib.hid (fun w' (hb : Below w22.heap.size w22 w') => HR.out _ w' (KV.out.below hb))
    have CQ := Lib.hid (fun w' (hb : Below w22.heap.size w22 w') => HQ.out _ w' (KV.out.below hb))
    have CO := Lib.hid (fun w' (hb : Below w22.heap.size w22 w') => HO.out _ w' (KV.out.below hb))
    clear Kx Ky KV HR HQ HO HS HN HM HV Bls Blx Bly Hq HLG HLH
    go_region_held3 (fun w' => Below w22.heap.size w22 w' ∧ w'.cell? ⟨w.heap.size, 0, none⟩ = some (.int .i64 a.n) ∧ w'.cell? ⟨w.heap.size, 1, none⟩ = some (.slice Ag lg cg) ∧ w'.cell? ⟨w.heap.size, 2, none⟩ = some (.slice Ah lh ch) ∧ w'.cell? ⟨w8.heap.size, 0, none⟩ = some (.int .i64 lx) ∧ w'.cell? ⟨w8.heap.size, 1, none⟩ = some (.slice A1x n1x c1x) ∧ w'.cell? ⟨w8.heap.size, 2, none⟩ = some (.slice A2x n2x c2x) ∧ w'.cell? ⟨w15.heap.size, 0, none⟩ = some (.int .i64 ly) ∧ w'.cell? ⟨w15.heap.size, 1, none⟩ = some (.slice A1y n1y c1y) ∧ w'.cell? ⟨w15.heap.size, 2, none⟩ = some (.slice A2y n2y c2y)) (first | assumption | exact keepA9D (by assumption) | exact keepA9 (by assumption) (by assumption) (by assumption) (by assumption) (by assumption)) (first | (go_at_call 15; refine (aalive_any _).mono ?_; rintro e wx ⟨rfl, hbx⟩) | (go_at_call 23; refine (CL.out _ (And.left (by assumption))).mono ?_; rintro e wx ⟨rfl, hbx⟩) | (go_at_call 22; refine (CR.out _ (And.left (by assumption))).mono ?_; rintro e wx ⟨rfl, hbx⟩) | (go_at_call 27; refine (CQ.out _ (And.left (by assumption))).mono ?_; rintro e wx ⟨rfl, hbx⟩) | (go_at_call 25; refine (CO.out _ (And.left (by assumption))).mono ?_; rintro e wx ⟨rfl, hbx⟩))
    go_wp2_with fail
    go_ret
    exact ⟨rfl, bThen BB24.out (by first | assumption | exact And.left (by assumption))⟩
end Go.Proofs.Ytenpgkkefielfaa
