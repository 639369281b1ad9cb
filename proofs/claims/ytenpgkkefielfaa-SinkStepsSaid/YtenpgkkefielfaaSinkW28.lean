/-
  WALKS of layer 19: the law SinkSteps.
-/
import Derived.Test.YtenpgkkefielfaaSinkW27
import Derived.Deep.RegionLaw
import Derived.Deep.Cut
namespace Go.Proofs.Ytenpgkkefielfaa
open Go.RowKit

theorem k_cell {W : World} {v1 v3 : Value} {b o n2 c2 : Nat} {l : Int} {k : Snk} (h : KAt W (.agg #[v1, .slice (some ⟨b, o, none⟩) n2 c2, .int .i64 l, v3]) k) {j : Nat} {x : Stg} (hx : k.st[j]? = some x) :
    b < W.heap.size ∧ W.cell? ⟨b, o + j * 2, none⟩ = some (.int .i64 x.n) ∧ W.cell? ⟨b, o + j * 2 + 1, none⟩ = some x.row ∧ x.At W ∧ k.st.length ≤ c2 := by
  obtain ⟨vo, vs, vu, e, -, ⟨h2, h3, -⟩, -, -⟩ := h
  injection e with e
  injection e with e
  simp at e
  obtain ⟨-, rfl, -, -⟩ := e
  have ha := h3 x (List.mem_of_getElem? hx)
  obtain ⟨b', o', c', e', hc, hb, hX⟩ := h2.at_ hx
  injection e' with e1 e2 e3
  injection e1 with e1
  injection e1 with e1 e4
  subst e1 e4
  exact ⟨hb, hX 0 _ rfl, hX 1 _ rfl, ha, by omega⟩
theorem k_some {W : World} {v1 v3 : Value} {A2 : Option Addr} {n2 c2 : Nat} {l : Int} {k : Snk} (h : KAt W (.agg #[v1, .slice A2 n2 c2, .int .i64 l, v3]) k) (hl : 0 < k.st.length) : ∃ b o, A2 = some ⟨b, o, none⟩ := by
  obtain ⟨vo, vs, vu, e, -, ⟨⟨A, c, e2, -, h2⟩, -, -⟩, -, -⟩ := h
  injection e with e
  injection e with e
  simp at e
  obtain ⟨-, rfl, -, -⟩ := e
  injection e2 with e2
  obtain ⟨b, o, h3, -⟩ := h2 hl
  exact ⟨b, o, e2.trans h3⟩
theorem z_int {W : World} {G : Nat} {T : TypeId} {a1 a2 a3 : Option Addr} {n1 n2 n3 c1 c2 c3 : Nat} {l : Int} (h : W.heap[G]? = some (.cells #[.slice a1 n1 c1, .slice a2 n2 c2, .int .i64 l, .slice a3 n3 c3] T (0, 0))) {o : Nat} {x : Int} (hx : W.cell? ⟨G, o, none⟩ = some (.int .i64 x)) : o = 2 ∧ x = l := by
  rw [cellsAt h o] at hx
  match o, hx with
  | 0, hx => simp at hx
  | 1, hx => simp at hx
  | 2, hx => simp at hx; exact ⟨rfl, hx.symm⟩
  | 3, hx => simp at hx
  | o + 4, hx => simp at hx
theorem RowR.zkeep {W W' : World} {v : Value} {l : List Res} (h : RowR W v l) {G : Nat} {T : TypeId} {a1 a2 a3 : Option Addr} {n1 n2 n3 c1 c2 c3 : Nat} {q : Int} (hz : W.heap[G]? = some (.cells #[.slice a1 n1 c1, .slice a2 n2 c2, .int .i64 q, .slice a3 n3 c3] T (0, 0)))
    (hb : ∀ p : Addr, p.block ≠ G → W'.cell? p = W.cell? p) (hs : W.heap.size ≤ W'.heap.size) : RowR W' v l := by
  obtain ⟨⟨A, c, e, hc, h⟩, h2⟩ := h
  refine ⟨⟨A, c, e, hc, fun hl => ?_⟩, h2⟩
  obtain ⟨b, o, ha, hb', hx⟩ := h hl
  have hne : b ≠ G := by
    intro e
    subst e
    have x0 := hx 0 l[0] 0 _ (List.getElem?_eq_getElem hl) rfl
    have x1 := hx 0 l[0] 1 _ (List.getElem?_eq_getElem hl) rfl
    have h0 := (z_int hz x0).1
    have h1 := (z_int hz x1).1
    omega
  exact ⟨b, o, ha, by omega, fun i x j u h1 h2 => (hb _ hne).trans (hx i x j u h1 h2)⟩
theorem KAt.zkeep {W W' : World} {v : Value} {k : Snk} (h : KAt W v k) (hr : k.right = true) {G : Nat} {T : TypeId} {a1 a2 a3 : Option Addr} {n1 n2 n3 c1 c2 c3 : Nat} {q : Int} (hz : W.heap[G]? = some (.cells #[.slice a1 n1 c1, .slice a2 n2 c2, .int .i64 q, .slice a3 n3 c3] T (0, 0))) (hq : q ≤ k.last)
    (hb : ∀ p : Addr, p.block ≠ G → W'.cell? p = W.cell? p) (hs : W.heap.size ≤ W'.heap.size) : KAt W' v k := by
  obtain ⟨vo, vs, vu, e, h1, ⟨⟨A, c, e2, hc, h2⟩, h3, h4⟩, h5, h6⟩ := h
  refine ⟨vo, vs, vu, e, h1.zkeep hz hb hs, ⟨⟨A, c, e2, hc, fun hl => ?_⟩, fun x hx => ⟨(h3 x hx).1, (h3 x hx).2.zkeep hz hb hs⟩, h4⟩, h5, h6.zkeep hz hb hs⟩
  obtain ⟨b, o, ha, hb', hx⟩ := h2 hl
  have hne : b ≠ G := by
    intro e
    subst e
    have x0 := hx 0 k.st[0] 0 _ (List.getElem?_eq_getElem hl) rfl
    have h0 := (z_int hz x0).2
    have hp := (right_iff _ _ _ _).1 hr
    have := (hp.2.2.2.2.2.2.1 k.st[0] (List.getElem_mem hl)).1
    omega
  exact ⟨b, o, ha, by omega, fun i x j u h1 h2 => (hb _ hne).trans (hx i x j u h1 h2)⟩
theorem cell_set4 (w : World) (g : Nat) (a b c d : Value) (p : Addr) (hp : p.block ≠ g) : ((((w.setCell ⟨g, 0, none⟩ a).setCell ⟨g, 1, none⟩ b).setCell ⟨g, 2, none⟩ c).setCell ⟨g, 3, none⟩ d).cell? p = w.cell? p := by
  have h1 : ∀ (w : World) (i : Nat) (u : Value), (w.setCell ⟨g, i, none⟩ u).cell? p = w.cell? p := fun w i u => World.cell?_of_block (Below.heap_setCell w ⟨g, i, none⟩ u p.block (fun e => hp (by simpa using e)))
  rw [h1, h1, h1, h1]
theorem keepS13 {W w' w'' : World} {ga gb gc gd of : Nat} {va0 va1 va2 va3 vb0 vb1 vb2 vb3 vc0 vc1 vc2 vc3 vd : Value} (h : Below W.heap.size W w' ∧ w'.cell? ⟨ga, 0, none⟩ = some va0 ∧ w'.cell? ⟨ga, 1, none⟩ = some va1 ∧ w'.cell? ⟨ga, 2, none⟩ = some va2 ∧ w'.cell? ⟨ga, 3, none⟩ = some va3 ∧ w'.cell? ⟨gb, 0, none⟩ = some vb0 ∧ w'.cell? ⟨gb, 1, none⟩ = some vb1 ∧ w'.cell? ⟨gb, 2, none⟩ = some vb2 ∧ w'.cell? ⟨gb, 3, none⟩ = some vb3 ∧ w'.cell? ⟨gc, 0, none⟩ = some vc0 ∧ w'.cell? ⟨gc, 1, none⟩ = some vc1 ∧ w'.cell? ⟨gc, 2, none⟩ = some vc2 ∧ w'.cell? ⟨gc, 3, none⟩ = some vc3 ∧ w'.cell? ⟨gd, of, none⟩ = some vd) (hb : Below w'.heap.size w' w'') (hga : ga < W.heap.size) (hgb : gb < W.heap.size) (hgc : gc < W.heap.size) (hgd : gd < W.heap.size) : Below W.heap.size W w'' ∧ w''.cell? ⟨ga, 0, none⟩ = some va0 ∧ w''.cell? ⟨ga, 1, none⟩ = some va1 ∧ w''.cell? ⟨ga, 2, none⟩ = some va2 ∧ w''.cell? ⟨ga, 3, none⟩ = some va3 ∧ w''.cell? ⟨gb, 0, none⟩ = some vb0 ∧ w''.cell? ⟨gb, 1, none⟩ = some vb1 ∧ w''.cell? ⟨gb, 2, none⟩ = some vb2 ∧ w''.cell? ⟨gb, 3, none⟩ = some vb3 ∧ w''.cell? ⟨gc, 0, none⟩ = some vc0 ∧ w''.cell? ⟨gc, 1, none⟩ = some vc1 ∧ w''.cell? ⟨gc, 2, none⟩ = some vc2 ∧ w''.cell? ⟨gc, 3, none⟩ = some vc3 ∧ w''.cell? ⟨gd, of, none⟩ = some vd := by
  obtain ⟨b, c0, c1, c2, c3, c4, c5, c6, c7, c8, c9, c10, c11, c12⟩ := h
  have hs := b.size
  exact ⟨b.trans (hb.mono hs), (hb.cell (p := ⟨ga, 0, none⟩) (Nat.lt_of_lt_of_le hga hs)).trans c0, (hb.cell (p := ⟨ga, 1, none⟩) (Nat.lt_of_lt_of_le hga hs)).trans c1, (hb.cell (p := ⟨ga, 2, none⟩) (Nat.lt_of_lt_of_le hga hs)).trans c2, (hb.cell (p := ⟨ga, 3, none⟩) (Nat.lt_of_lt_of_le hga hs)).trans c3, (hb.cell (p := ⟨gb, 0, none⟩) (Nat.lt_of_lt_of_le hgb hs)).trans c4, (hb.cell (p := ⟨gb, 1, none⟩) (Nat.lt_of_lt_of_le hgb hs)).trans c5, (hb.cell (p := ⟨gb, 2, none⟩) (Nat.lt_of_lt_of_le hgb hs)).trans c6, (hb.cell (p := ⟨gb, 3, none⟩) (Nat.lt_of_lt_of_le hgb hs)).trans c7, (hb.cell (p := ⟨gc, 0, none⟩) (Nat.lt_of_lt_of_le hgc hs)).trans c8, (hb.cell (p := ⟨gc, 1, none⟩) (Nat.lt_of_lt_of_le hgc hs)).trans c9, (hb.cell (p := ⟨gc, 2, none⟩) (Nat.lt_of_lt_of_le hgc hs)).trans c10, (hb.cell (p := ⟨gc, 3, none⟩) (Nat.lt_of_lt_of_le hgc hs)).trans c11, (hb.cell (p := ⟨gd, of, none⟩) (Nat.lt_of_lt_of_le hgd hs)).trans c12⟩
theorem keepS13D {W w' : World} {ga gb gc gd of : Nat} {va0 va1 va2 va3 vb0 vb1 vb2 vb3 vc0 vc1 vc2 vc3 vd : Value} (h : Below W.heap.size W w' ∧ w'.cell? ⟨ga, 0, none⟩ = some va0 ∧ w'.cell? ⟨ga, 1, none⟩ = some va1 ∧ w'.cell? ⟨ga, 2, none⟩ = some va2 ∧ w'.cell? ⟨ga, 3, none⟩ = some va3 ∧ w'.cell? ⟨gb, 0, none⟩ = some vb0 ∧ w'.cell? ⟨gb, 1, none⟩ = some vb1 ∧ w'.cell? ⟨gb, 2, none⟩ = some vb2 ∧ w'.cell? ⟨gb, 3, none⟩ = some vb3 ∧ w'.cell? ⟨gc, 0, none⟩ = some vc0 ∧ w'.cell? ⟨gc, 1, none⟩ = some vc1 ∧ w'.cell? ⟨gc, 2, none⟩ = some vc2 ∧ w'.cell? ⟨gc, 3, none⟩ = some vc3 ∧ w'.cell? ⟨gd, of, none⟩ = some vd) : Below W.heap.size W w'.drew ∧ w'.drew.cell? ⟨ga, 0, none⟩ = some va0 ∧ w'.drew.cell? ⟨ga, 1, none⟩ = some va1 ∧ w'.drew.cell? ⟨ga, 2, none⟩ = some va2 ∧ w'.drew.cell? ⟨ga, 3, none⟩ = some va3 ∧ w'.drew.cell? ⟨gb, 0, none⟩ = some vb0 ∧ w'.drew.cell? ⟨gb, 1, none⟩ = some vb1 ∧ w'.drew.cell? ⟨gb, 2, none⟩ = some vb2 ∧ w'.drew.cell? ⟨gb, 3, none⟩ = some vb3 ∧ w'.drew.cell? ⟨gc, 0, none⟩ = some vc0 ∧ w'.drew.cell? ⟨gc, 1, none⟩ = some vc1 ∧ w'.drew.cell? ⟨gc, 2, none⟩ = some vc2 ∧ w'.drew.cell? ⟨gc, 3, none⟩ = some vc3 ∧ w'.drew.cell? ⟨gd, of, none⟩ = some vd := ⟨h.1.drew, h.2⟩
def StRel (k : Snk) (jj : Nat) (w0 : World) (i : Value) (wr : World) : Prop :=
  ∃ (t : Nat) (A1 : Option Addr) (n1 c1 : Nat) (A2 : Option Addr) (n2 c2 : Nat) (l : Int) (A3 : Option Addr) (n3 c3 : Nat), t ≤ jj + 1 ∧ i = .int .i64 t ∧ wr.heap[w0.heap.size]? = some (.cells #[.slice A1 n1 c1, .slice A2 n2 c2, .int .i64 l, .slice A3 n3 c3] 66 (0, 0)) ∧
    KAt wr (.agg #[.slice A1 n1 c1, .slice A2 n2 c2, .int .i64 l, .slice A3 n3 c3]) (stepK k t) ∧ Below w0.heap.size w0 wr
set_option maxRecDepth 100000 in
set_option maxHeartbeats 8000000 in
theorem steps_walk (k : Snk) (n : Int) (hn : wfL n) (v : Value) (w : World) (hv : KAt w v k) :
    Calls Try.prog 13 #[v, .int .i64 n] w fun e w' => e = .returned (.bool true) ∧ Below w.heap.size w w' := by
  have HV := Lib.hid hv
  have HS := Lib.hid (fun v W hW b hb => small_any k v W hW b hb)
  have HA := Lib.hid (fun v W hW j (h : wfL j) => scom_all k j h v W hW)
  have HR := Lib.hid (fun v W hW => sright_all k v W hW)
  obtain ⟨q, hq⟩ : ∃ q, decide (k.st.length ≤ 20) = q := ⟨_, rfl⟩
  have HQ1 := Lib.hid hq
  obtain ⟨kr, hkr⟩ : ∃ kr, k.right = kr := ⟨_, rfl⟩
  rw [hkr] at HR
  have HKR := Lib.hid hkr
  unfold ComTo at HA
  obtain ⟨ln, hln⟩ : ∃ ln, k.st.length = ln := ⟨_, rfl⟩
  have HLN := Lib.hid hln
  obtain ⟨A1, c1, A2, c2, A3, c3, rfl⟩ := k_form hv
  have HN := Lib.hid hn
  unfold wfL at hn
  rw [hln] at HV ⊢
  clear hv hq hkr hln
  go_enter Try.func13, Try.ntmps13
  go_wp2_with fail
  have KS := HV
  obtain ⟨W1, hW2⟩ : ∃ X, X = (w).alloc (.cells #[.slice A1 k.op.length c1, .slice A2 ln c2, .int .i64 k.last, .slice A3 k.out.length c3] 66) := ⟨_, rfl⟩
  rw [← hW2]
  have hb3 : Below w.heap.size w W1 := by rw [hW2]; exact bel_alloc (Below.refl _ _) _
  have Ns := Lib.hid (show W1.heap[w.heap.size]? = some (.cells #[.slice A1 k.op.length c1, .slice A2 ln c2, .int .i64 k.last, .slice A3 k.out.length c3] 66 (0, 0)) by rw [hW2]; exact heap_at (w) _ (w.heap.size) (by simp))
  clear hW2
  have Z := Lib.hid (KAt.below KS.out hb3)
  clear KS
  have KS := Z
  clear Z
  have BB4 := Lib.hid hb3
  clear hb3
  have Bls := Ns
  clear Ns
  refine (HS.out _ _ KS.out q HQ1.out).mono ?_
  rintro e w5 ⟨rfl, hb6⟩
  have Z := Lib.hid (heap_below Bls.out hb6)
  clear Bls
  have Bls := Z
  clear Z
  have Z := Lib.hid (KAt.below KS.out hb6)
  clear KS
  have KS := Z
  clear Z
  have BB7 := Lib.hid (bThen BB4.out hb6)
  clear hb6
  have zs := blk_lt Bls.out
  have xs0 := cellsAt Bls.out 0
  have xs1 := cellsAt Bls.out 1
  have xs2 := cellsAt Bls.out 2
  have xs3 := cellsAt Bls.out 3
  have fs := frozAt Bls.out
  simp at xs0 xs1 xs2 xs3
  cases q with
  | false =>
    go_wp2_with fail
    refine (alive_any _).mono ?_
    rintro e w8 ⟨rfl, hb9⟩
    clear zs fs xs0 xs1 xs2 xs3
    have Z := Lib.hid (heap_below Bls.out hb9)
    clear Bls
    have Bls := Z
    clear Z
    have Z := Lib.hid (KAt.below KS.out hb9)
    clear KS
    have KS := Z
    clear Z
    have BB10 := Lib.hid (bThen BB7.out hb9)
    clear hb9
    go_wp2_with fail
    go_ret
    exact ⟨rfl, BB10.out⟩
  | true =>
  go_wp2_with fail
  refine (HR.out _ _ KS.out).mono ?_
  rintro e w8 ⟨rfl, hb9⟩
  clear zs fs xs0 xs1 xs2 xs3
  have Z := Lib.hid (heap_below Bls.out hb9)
  clear Bls
  have Bls := Z
  clear Z
  have Z := Lib.hid (KAt.below KS.out hb9)
  clear KS
  have KS := Z
  clear Z
  have BB10 := Lib.hid (bThen BB7.out hb9)
  clear hb9
  have zs := blk_lt Bls.out
  have xs0 := cellsAt Bls.out 0
  have xs1 := cellsAt Bls.out 1
  have xs2 := cellsAt Bls.out 2
  have xs3 := cellsAt Bls.out 3
  have fs := frozAt Bls.out
  simp at xs0 xs1 xs2 xs3
  cases kr with
  | false =>
    go_wp2_with fail
    refine (alive_any _).mono ?_
    rintro e w11 ⟨rfl, hb12⟩
    clear zs fs xs0 xs1 xs2 xs3
    have Z := Lib.hid (heap_below Bls.out hb12)
    clear Bls
    have Bls := Z
    clear Z
    have Z := Lib.hid (KAt.below KS.out hb12)
    clear KS
    have KS := Z
    clear Z
    have BB13 := Lib.hid (bThen BB10.out hb12)
    clear hb12
    go_wp2_with fail
    go_ret
    exact ⟨rfl, BB13.out⟩
  | true =>
  rcases Nat.eq_zero_or_pos ln with hz | hz
  · subst hz
    go_wp2_with fail
    refine (alive_any _).mono ?_
    rintro e w11 ⟨rfl, hb12⟩
    clear zs fs xs0 xs1 xs2 xs3
    have Z := Lib.hid (heap_below Bls.out hb12)
    clear Bls
    have Bls := Z
    clear Z
    have Z := Lib.hid (KAt.below KS.out hb12)
    clear KS
    have KS := Z
    clear Z
    have BB13 := Lib.hid (bThen BB10.out hb12)
    clear hb12
    go_wp2_with fail
    go_ret
    exact ⟨rfl, BB13.out⟩
  have h8 : ln ≤ 8 := by rw [← HLN.out]; exact (right_lens HKR.out).2.2.1
  obtain ⟨b0, o0, rfl⟩ := k_some KS.out (by rw [HLN.out]; exact hz)
  go_wp2_with fail
  refine (alive_any _).mono ?_
  rintro e w11 ⟨rfl, hb12⟩
  clear zs fs xs0 xs1 xs2 xs3
  have Z := Lib.hid (heap_below Bls.out hb12)
  clear Bls
  have Bls := Z
  clear Z
  have Z := Lib.hid (KAt.below KS.out hb12)
  clear KS
  have KS := Z
  clear Z
  have BB13 := Lib.hid (bThen BB10.out hb12)
  clear hb12
  have zs := blk_lt Bls.out
  have xs0 := cellsAt Bls.out 0
  have xs1 := cellsAt Bls.out 1
  have xs2 := cellsAt Bls.out 2
  have xs3 := cellsAt Bls.out 3
  have fs := frozAt Bls.out
  simp at xs0 xs1 xs2 xs3
  go_wp2_with fail
  have hne : (ln : Int) ≠ 0 := by omega
  have hne2 : ((ln : Int) == 0) = false := by simp; omega
  go_quiet (fail)
  obtain ⟨j, hj, hjl⟩ : ∃ j : Nat, (wrap64 (n.tmod (ln : Int) + (ln : Int))).tmod (ln : Int) = (j : Int) ∧ j < ln := by
    have h1 := Int.tmod_lt_of_pos n (show (0 : Int) < ln by omega)
    have h2 : -(ln : Int) < n.tmod ln := by have := Int.lt_tmod_of_pos n (show (0 : Int) < ln by omega); omega
    rw [show wrap64 (n.tmod (ln : Int) + (ln : Int)) = n.tmod (ln : Int) + (ln : Int) by unfold wrap64; omega]
    have h3 := Int.tmod_nonneg (ln : Int) (show 0 ≤ n.tmod (ln : Int) + (ln : Int) by omega)
    have h4 := Int.tmod_lt_of_pos (n.tmod (ln : Int) + (ln : Int)) (show (0 : Int) < ln by omega)
    exact ⟨_, (Int.toNat_of_nonneg h3).symm, by omega⟩
  rw [hj]
  clear hj
  obtain ⟨W14, hW15⟩ : ∃ X, X = w11.drewN nq := ⟨_, rfl⟩
  rw [← hW15]
  have hb16 : Below w11.heap.size w11 W14 := by rw [hW15]; exact bDrewN (Below.refl _ _)
  clear hW15
  clear zs fs xs0 xs1 xs2 xs3
  have Z := Lib.hid (heap_below Bls.out hb16)
  clear Bls
  have Bls := Z
  clear Z
  have Z := Lib.hid (KAt.below KS.out hb16)
  clear KS
  have KS := Z
  clear Z
  have BB17 := Lib.hid (bThen BB13.out hb16)
  clear hb16
  obtain ⟨x, hx⟩ : ∃ x, k.st[j]? = some x := ⟨_, List.getElem?_eq_getElem (by rw [HLN.out]; exact hjl)⟩
  obtain ⟨hb0, p0, p1, hat, hcap⟩ := k_cell KS.out hx
  have HXW := Lib.hid hat.1
  obtain ⟨ST1, ST2⟩ := step_com HKR.out hx
  have HX := Lib.hid hx
  obtain ⟨xn, xr, xl⟩ := x
  simp only at p0 p1 ST1 ST2
  have hj0 : (0 : Int) ≤ (j : Int) := by omega
  have hj1 : (j : Int) < (ln : Int) := by omega
  have ST1h := Lib.hid ST1
  have ST2h := Lib.hid ST2
  clear ST1 ST2 hx hat
  have zs := blk_lt Bls.out
  have xs0 := cellsAt Bls.out 0
  have xs1 := cellsAt Bls.out 1
  have xs2 := cellsAt Bls.out 2
  have xs3 := cellsAt Bls.out 3
  have fs := frozAt Bls.out
  simp at xs0 xs1 xs2 xs3
  go_wp2_with fail
  have hw0 : W14.heap.size ≤ W14.heap.size := Nat.le_refl _
  go_cut [5, 6] (fun p e W => ∃ (ga : Nat) (B1 : Option Addr) (m1 d1 : Nat) (B2 : Option Addr) (m2 d2 : Nat) (lb : Int) (B3 : Option Addr) (m3 d3 : Nat), p = .pointer (some ⟨ga, 0, none⟩) ∧ e = .int .i64 0 ∧ W14.heap.size ≤ ga ∧ W.heap[ga]? = some (.cells #[.slice B1 m1 d1, .slice B2 m2 d2, .int .i64 lb, .slice B3 m3 d3] 66 (0, 0)) ∧ KAt W (.agg #[.slice B1 m1 d1, .slice B2 m2 d2, .int .i64 lb, .slice B3 m3 d3]) (stepK k (j + 1)) ∧ Below W14.heap.size W14 W)
  case first =>
    have SR := Lib.hid (step_right HKR.out (j := j + 1) (by rw [HLN.out]; omega))
    go_region_law (first | (go_simp; go_at_call 38; refine (HA.out _ _ (KAt.below KS.out (by first | exact Below.drew (Below.refl _ _) | exact Below.drew (bel_alloc (Below.refl _ _) _))) _ HXW.out).mono ?_; rintro e wc ⟨⟨vc, rfl, hkc⟩, hbc⟩; rw [ST1h.out]; rw [ST2h.out] at hkc; obtain ⟨B1, m1, d1, B2, m2, d2, lb, B3, m3, d3, rfl⟩ := k_form3 hkc; (try (have tb : wc.heap[W14.heap.size]? = some (.cells #[.slice none 0 0, .slice none 0 0, .int .i64 0, .slice none 0 0] 66 (0, 0)) := (hbc.block W14.heap.size (by simp)).trans (heap_alloc_new _ _); have tc0 := cellsAt tb 0; have tc1 := cellsAt tb 1; have tc2 := cellsAt tb 2; have tc3 := cellsAt tb 3; have tcz := frozAt tb; simp at tc0 tc1 tc2 tc3)); have tq := hbc.size))
    all_goals
      go_wp2_with fail
      go_meet
      simp at tq
      first | exact ⟨_, _, _, _, _, _, _, _, _, _, _, rfl, rfl, Nat.le_refl _, set4 tb _ _ _ _, hkc.zkeep SR.out tb ((right_iff _ _ _ _).1 SR.out).1 (cell_set4 _ _ _ _ _ _) (by simp), (bel4 ((Below.drew (bel_alloc (Below.refl _ _) _)).trans (hbc.mono (by simp))) (Nat.le_refl _) _ _ _ _)⟩ | exact ⟨_, _, _, _, _, _, _, _, _, _, _, rfl, rfl, tq, heap_at _ _ _ rfl, KAt.below hkc (bel_alloc (Below.refl _ _) _), ((Below.drew (Below.refl _ _)).trans hbc).alloc tq _⟩
  case rest =>
    obtain ⟨ga, B1, m1, d1, B2, m2, d2, lb, B3, m3, d3, rfl, rfl, hge, hblk, hka, hbel⟩ := hcut
    clear zs fs xs0 xs1 xs2 xs3
    have Z := Lib.hid (heap_below Bls.out hbel)
    clear Bls
    have Bls := Z
    clear Z
    have Z := Lib.hid (KAt.below KS.out hbel)
    clear KS
    have KS := Z
    clear Z
    have BB18 := Lib.hid (bThen BB17.out hbel)
    clear hbel
    have Bla := Lib.hid hblk
    have Ka := Lib.hid hka
    clear hblk hka
    have zs := blk_lt Bls.out
    have xs0 := cellsAt Bls.out 0
    have xs1 := cellsAt Bls.out 1
    have xs2 := cellsAt Bls.out 2
    have xs3 := cellsAt Bls.out 3
    have fs := frozAt Bls.out
    simp at xs0 xs1 xs2 xs3
    have hcap2 : (j : Int) + 1 ≤ (c2 : Int) := by rw [HLN.out] at hcap; omega
    have hcap3 : (0 : Int) ≤ (j : Int) + 1 := by omega
    have hcap4 : ((j : Int) + 1).toNat = j + 1 := by omega
    go_wp2_with fail
    have Wls := Bls
    have Wla := Bla
    have KSw := KS
    have Kaw := Ka
    have BBwc := BB18
    obtain ⟨W19, hW20⟩ : ∃ X, X = (wc).alloc (.cells #[.slice A1 k.op.length c1, .slice (some ⟨b0, o0, none⟩) ln c2, .int .i64 k.last, .slice A3 k.out.length c3] 66) := ⟨_, rfl⟩
    rw [← hW20]
    have hb21 : Below wc.heap.size wc W19 := by rw [hW20]; exact bel_alloc (Below.refl _ _) _
    have Nb := Lib.hid (show W19.heap[wc.heap.size]? = some (.cells #[.slice A1 k.op.length c1, .slice (some ⟨b0, o0, none⟩) ln c2, .int .i64 k.last, .slice A3 k.out.length c3] 66 (0, 0)) by rw [hW20]; exact heap_at (wc) _ (wc.heap.size) (by simp))
    clear hW20
    have hbW := hb21
    have Z := Lib.hid (heap_below Bls.out hb21)
    clear Bls
    have Bls := Z
    clear Z
    have Z := Lib.hid (heap_below Bla.out hb21)
    clear Bla
    have Bla := Z
    clear Z
    have Z := Lib.hid (KAt.below KS.out hb21)
    clear KS
    have KS := Z
    clear Z
    have Z := Lib.hid (KAt.below Ka.out hb21)
    clear Ka
    have Ka := Z
    clear Z
    have BB22 := Lib.hid (bThen BB18.out hb21)
    clear hb21
    have Blb := Nb
    clear Nb
    have hG : wc.heap.size ≤ wc.heap.size := Nat.le_refl _
    go_loopw [62] (fun i wr => StRel k j wc i wr) (fun i _ => j + 1 - (intOf i).toNat)
    case atStart => exact ⟨0, _, _, _, _, _, _, _, _, _, _, Nat.zero_le _, rfl, Blb.out, by rw [stepK_zero]; exact KS.out, hbW⟩
    case round =>
      obtain ⟨t, D1, e1, f1, D2, e2, f2, le, D3, e3, f3, ht, rfl, hblk, hk, hbel⟩ := hrel
      have HBL := Lib.hid hbel
      clear Blb
      have BBr := Lib.hid (bThen BBwc.out hbel)
      have Z := Lib.hid (heap_below Wls.out hbel)
      clear Bls
      have Bls := Z
      clear Z
      have Z := Lib.hid (heap_below Wla.out hbel)
      clear Bla
      have Bla := Z
      clear Z
      have Z := Lib.hid (KAt.below KSw.out hbel)
      clear KS
      have KS := Z
      clear Z
      have Z := Lib.hid (KAt.below Kaw.out hbel)
      clear Ka
      have Ka := Z
      clear Z
      clear hbel
      have Blb := Lib.hid hblk
      have Kb := Lib.hid hk
      clear hblk hk
      by_cases hlt : t < j + 1
      · obtain ⟨y, hy⟩ : ∃ y, k.st[t]? = some y := ⟨_, List.getElem?_eq_getElem (by rw [HLN.out]; omega)⟩
        obtain ⟨hb1, r0, r1, hyt, -⟩ := k_cell KS.out hy
        have HYW := Lib.hid hyt.1
        obtain ⟨SN1, SN2, SN3⟩ := step_next HKR.out hy
        have SR := Lib.hid (step_right HKR.out (j := t + 1) (by rw [HLN.out]; omega))
        have SL : (stepK k t).last ≤ (stepK k (t + 1)).last := by
          have hx0 : (stepK k t).st[0]? = some y := by unfold stepK; rw [List.getElem?_drop]; exact hy
          have h1 := (asc_of (step_right HKR.out (j := t) (by rw [HLN.out]; omega)) 0 y hx0).1
          show (stepK k t).last ≤ prevS k.last k.st (t + 1)
          rw [prevS_succ hy]; omega
        have HSL := Lib.hid SL
        have HSN1 := Lib.hid SN1
        have HSN2 := Lib.hid SN2
        have HSN3 := Lib.hid SN3
        obtain ⟨⟨Ay, cy, hye, -, -⟩, -⟩ := hyt.2
        clear SN1 SN2 SN3 SL hy hyt
        obtain ⟨yn, yr, yl⟩ := y
        simp only at r0 r1 hye HSN1 HSN2 HSN3
        subst hye
        have HCb := Lib.hid (fun v W (hW : KAt W v (stepK k t)) => scom_all (stepK k t) yn HYW.out v W hW)
        unfold ComTo at HCb
        rw [HSN1.out, HSN2.out] at HCb
        clear zs fs xs0 xs1 xs2 xs3
        have zb := blk_lt Blb.out
        have xb0 := cellsAt Blb.out 0
        have xb1 := cellsAt Blb.out 1
        have xb2 := cellsAt Blb.out 2
        have xb3 := cellsAt Blb.out 3
        have fb := frozAt Blb.out
        simp at xb0 xb1 xb2 xb3
        have zs := blk_lt Bls.out
        have xs0 := cellsAt Bls.out 0
        have xs1 := cellsAt Bls.out 1
        have xs2 := cellsAt Bls.out 2
        have xs3 := cellsAt Bls.out 3
        have fs := frozAt Bls.out
        simp at xs0 xs1 xs2 xs3
        go_wp2_with fail
        obtain ⟨W23, hW24⟩ : ∃ X, X = (wr).alloc (.cells #[.int .i64 yn, .slice Ay yl.length cy] 85) := ⟨_, rfl⟩
        rw [← hW24]
        have hb25 : Below wr.heap.size wr W23 := by rw [hW24]; exact bel_alloc (Below.refl _ _) _
        have Ny := Lib.hid (show W23.heap[wr.heap.size]? = some (.cells #[.int .i64 yn, .slice Ay yl.length cy] 85 (0, 0)) by rw [hW24]; exact heap_at (wr) _ (wr.heap.size) (by simp))
        clear hW24
        have Z := Lib.hid (heap_below Bls.out hb25)
        clear Bls
        have Bls := Z
        clear Z
        have Z := Lib.hid (heap_below Bla.out hb25)
        clear Bla
        have Bla := Z
        clear Z
        have Z := Lib.hid (heap_below Blb.out hb25)
        clear Blb
        have Blb := Z
        clear Z
        have Z := Lib.hid (KAt.below KS.out hb25)
        clear KS
        have KS := Z
        clear Z
        have Z := Lib.hid (KAt.below Ka.out hb25)
        clear Ka
        have Ka := Z
        clear Z
        have Z := Lib.hid (KAt.below Kb.out hb25)
        clear Kb
        have Kb := Z
        clear Z
        have Z := Lib.hid (bThen HBL.out hb25)
        clear HBL
        have HBL := Z
        clear Z
        have BB26 := Lib.hid (bThen BBr.out hb25)
        clear hb25
        have Bly := Ny
        clear Ny
        refine (HCb.out _ _ Kb.out).mono ?_
        rintro e w27 ⟨⟨vc, rfl, hkc⟩, hb28⟩
        clear zb fb xb0 xb1 xb2 xb3 zs fs xs0 xs1 xs2 xs3
        have Z := Lib.hid (heap_below Bls.out hb28)
        clear Bls
        have Bls := Z
        clear Z
        have Z := Lib.hid (heap_below Bla.out hb28)
        clear Bla
        have Bla := Z
        clear Z
        have Z := Lib.hid (heap_below Blb.out hb28)
        clear Blb
        have Blb := Z
        clear Z
        have Z := Lib.hid (heap_below Bly.out hb28)
        clear Bly
        have Bly := Z
        clear Z
        have Z := Lib.hid (KAt.below KS.out hb28)
        clear KS
        have KS := Z
        clear Z
        have Z := Lib.hid (KAt.below Ka.out hb28)
        clear Ka
        have Ka := Z
        clear Z
        have Z := Lib.hid (KAt.below Kb.out hb28)
        clear Kb
        have Kb := Z
        clear Z
        have Z := Lib.hid (bThen HBL.out hb28)
        clear HBL
        have HBL := Z
        clear Z
        have BB29 := Lib.hid (bThen BB26.out hb28)
        clear hb28
        have Kc := Lib.hid hkc
        clear hkc
        obtain ⟨A1c, n1c, c1c, A2c, n2c, c2c, lc, A3c, n3c, c3c, rfl⟩ := k_form3 Kc.out
        have zb := blk_lt Blb.out
        have xb0 := cellsAt Blb.out 0
        have xb1 := cellsAt Blb.out 1
        have xb2 := cellsAt Blb.out 2
        have xb3 := cellsAt Blb.out 3
        have fb := frozAt Blb.out
        simp at xb0 xb1 xb2 xb3
        have zy := blk_lt Bly.out
        have xy0 := cellsAt Bly.out 0
        have xy1 := cellsAt Bly.out 1
        have fy := frozAt Bly.out
        simp at xy0 xy1
        have hlc := (k_parts Kc.out).1.2.2.2
        have hlb := (k_parts Kb.out).1.2.2.2
        rw [HSN3.out, ← hlb] at hlc
        subst hlc
        have hl2 := (right_lens SR.out).2.1
        have hlb2 := (k_parts Kb.out).1.2.2.1
        have hl3 : (e3 : Int) + (yl.length : Int) ≤ 20000 := by have := HSN3.out; rw [← hlb] at this; change (stepK k (t + 1)).out.length ≤ 20000 at hl2; omega
        clear hlb
        go_wp2_with fail
        go_roundw
        case rel => exact ⟨t + 1, _, _, _, _, _, _, _, _, _, _, by omega, by go_num, heap_below (set4 Blb.out _ _ _ _) (bel_alloc (Below.refl _ _) _), KAt.below (Kc.out.zkeep SR.out Blb.out (by rw [hlb2]; exact HSL.out) (cell_set4 _ _ _ _ _ _) (by simp)) (bel_alloc (Below.refl _ _) _), (bel4 HBL.out (Nat.le_refl _) _ _ _ _).alloc (by have := HBL.out.size; simpa using this) _⟩
        case measure => simp [intOf]; omega
      · obtain rfl : t = j + 1 := by omega
        obtain ⟨hb1, r0, r1, -, -⟩ := k_cell KS.out HX.out
        simp only at r0 r1
        have hla := (k_parts Ka.out).1
        have hm2 : m2 = ln - (j + 1) := by rw [hla.2.1]; show (k.st.drop (j + 1)).length = _; rw [List.length_drop, HLN.out]
        have hlb3 : lb = xn := by rw [hla.2.2.1]; show prevS k.last k.st (j + 1) = xn; rw [prevS_succ HX.out]
        subst hm2 hlb3
        clear hla
        clear zs fs xs0 xs1 xs2 xs3
        have za := blk_lt Bla.out
        have xa0 := cellsAt Bla.out 0
        have xa1 := cellsAt Bla.out 1
        have xa2 := cellsAt Bla.out 2
        have xa3 := cellsAt Bla.out 3
        have fa := frozAt Bla.out
        simp at xa0 xa1 xa2 xa3
        have zb := blk_lt Blb.out
        have xb0 := cellsAt Blb.out 0
        have xb1 := cellsAt Blb.out 1
        have xb2 := cellsAt Blb.out 2
        have xb3 := cellsAt Blb.out 3
        have fb := frozAt Blb.out
        simp at xb0 xb1 xb2 xb3
        have zs := blk_lt Bls.out
        have xs0 := cellsAt Bls.out 0
        have xs1 := cellsAt Bls.out 1
        have xs2 := cellsAt Bls.out 2
        have xs3 := cellsAt Bls.out 3
        have fs := frozAt Bls.out
        simp at xs0 xs1 xs2 xs3
        go_wp2_with fail
        have hS : Below wr.heap.size wr wr ∧ wr.cell? ⟨ga, 0, none⟩ = some (.slice B1 m1 d1) ∧ wr.cell? ⟨ga, 1, none⟩ = some (.slice B2 (ln - (j + 1)) d2) ∧ wr.cell? ⟨ga, 2, none⟩ = some (.int .i64 lb) ∧ wr.cell? ⟨ga, 3, none⟩ = some (.slice B3 m3 d3) ∧ wr.cell? ⟨wc.heap.size, 0, none⟩ = some (.slice D1 e1 f1) ∧ wr.cell? ⟨wc.heap.size, 1, none⟩ = some (.slice D2 e2 f2) ∧ wr.cell? ⟨wc.heap.size, 2, none⟩ = some (.int .i64 le) ∧ wr.cell? ⟨wc.heap.size, 3, none⟩ = some (.slice D3 e3 f3) ∧ wr.cell? ⟨w.heap.size, 0, none⟩ = some (.slice A1 k.op.length c1) ∧ wr.cell? ⟨w.heap.size, 1, none⟩ = some (.slice (some ⟨b0, o0, none⟩) ln c2) ∧ wr.cell? ⟨w.heap.size, 2, none⟩ = some (.int .i64 k.last) ∧ wr.cell? ⟨w.heap.size, 3, none⟩ = some (.slice A3 k.out.length c3) ∧ wr.cell? ⟨b0, o0 + j * 2, none⟩ = some (.int .i64 lb) := ⟨Below.refl _ _, cellsAt Bla.out 0, cellsAt Bla.out 1, cellsAt Bla.out 2, cellsAt Bla.out 3, cellsAt Blb.out 0, cellsAt Blb.out 1, cellsAt Blb.out 2, cellsAt Blb.out 3, cellsAt Bls.out 0, cellsAt Bls.out 1, cellsAt Bls.out 2, cellsAt Bls.out 3, r0⟩
        have CL := Lib.hid (fun w' (hb : Below wr.heap.size wr w') => like_all _ _ (likeK_self (stepK k (j + 1))) _ _ w' (Ka.out.below hb) (Kb.out.below hb))
        have hij : (j : Int) < ((ln : Nat) : Int) := by omega
        have hsub : ((ln - (j + 1) : Nat) : Int) = (ln : Int) - (j : Int) - 1 := by omega
        have hj0' : (0 : Int) ≤ (j : Int) := by omega
        have hw1 : IntKind.i64.wrap ((ln : Int) - (j : Int)) = (ln : Int) - (j : Int) := by rw [IntKind.wrap_i64]; omega
        have hw2 : IntKind.i64.wrap ((ln : Int) - (j : Int) - 1) = (ln : Int) - (j : Int) - 1 := by rw [IntKind.wrap_i64]; omega
        clear Blb Bla Bls Wls Wla KSw Kaw Ka Kb KS HA HR HS HV BBwc HBL HX HXW ST1h ST2h hcap hcap2 hcap3 hcap4 hbW hge hG
        go_region_held3 (fun w' => Below wr.heap.size wr w' ∧ w'.cell? ⟨ga, 0, none⟩ = some (.slice B1 m1 d1) ∧ w'.cell? ⟨ga, 1, none⟩ = some (.slice B2 (ln - (j + 1)) d2) ∧ w'.cell? ⟨ga, 2, none⟩ = some (.int .i64 lb) ∧ w'.cell? ⟨ga, 3, none⟩ = some (.slice B3 m3 d3) ∧ w'.cell? ⟨wc.heap.size, 0, none⟩ = some (.slice D1 e1 f1) ∧ w'.cell? ⟨wc.heap.size, 1, none⟩ = some (.slice D2 e2 f2) ∧ w'.cell? ⟨wc.heap.size, 2, none⟩ = some (.int .i64 le) ∧ w'.cell? ⟨wc.heap.size, 3, none⟩ = some (.slice D3 e3 f3) ∧ w'.cell? ⟨w.heap.size, 0, none⟩ = some (.slice A1 k.op.length c1) ∧ w'.cell? ⟨w.heap.size, 1, none⟩ = some (.slice (some ⟨b0, o0, none⟩) ln c2) ∧ w'.cell? ⟨w.heap.size, 2, none⟩ = some (.int .i64 k.last) ∧ w'.cell? ⟨w.heap.size, 3, none⟩ = some (.slice A3 k.out.length c3) ∧ w'.cell? ⟨b0, o0 + j * 2, none⟩ = some (.int .i64 lb)) (first | assumption | exact keepS13D (by assumption) | exact keepS13 (by assumption) (by assumption) (by assumption) (by assumption) (by assumption) (by assumption)) (first | (go_at_call 37; refine (CL.out _ (And.left (by assumption))).mono ?_; rintro e wx ⟨rfl, hbx⟩))
        go_wp2_with fail
        go_ret
        exact ⟨rfl, bThen BBr.out (by first | assumption | exact And.left (by assumption))⟩
end Go.Proofs.Ytenpgkkefielfaa
