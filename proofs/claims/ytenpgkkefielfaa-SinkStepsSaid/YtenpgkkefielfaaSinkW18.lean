/-
  WALKS of layer 19: the law SinkAdds.
-/
import Derived.Test.YtenpgkkefielfaaSinkW17
namespace Go.Proofs.Ytenpgkkefielfaa
open Go.RowKit

theorem keepK5 {W w' w'' : World} {ga gb gc gd ge : Nat} {va0 va1 va2 va3 vb0 vb1 vb2 vb3 vc0 vc1 vc2 vc3 vd0 vd1 vd2 vd3 ve0 ve1 ve2 ve3 : Value} (hga : ga < W.heap.size) (hgb : gb < W.heap.size) (hgc : gc < W.heap.size) (hgd : gd < W.heap.size) (hge : ge < W.heap.size) (h : Below W.heap.size W w' ∧ w'.cell? ⟨ga, 0, none⟩ = some va0 ∧ w'.cell? ⟨ga, 1, none⟩ = some va1 ∧ w'.cell? ⟨ga, 2, none⟩ = some va2 ∧ w'.cell? ⟨ga, 3, none⟩ = some va3 ∧ w'.cell? ⟨gb, 0, none⟩ = some vb0 ∧ w'.cell? ⟨gb, 1, none⟩ = some vb1 ∧ w'.cell? ⟨gb, 2, none⟩ = some vb2 ∧ w'.cell? ⟨gb, 3, none⟩ = some vb3 ∧ w'.cell? ⟨gc, 0, none⟩ = some vc0 ∧ w'.cell? ⟨gc, 1, none⟩ = some vc1 ∧ w'.cell? ⟨gc, 2, none⟩ = some vc2 ∧ w'.cell? ⟨gc, 3, none⟩ = some vc3 ∧ w'.cell? ⟨gd, 0, none⟩ = some vd0 ∧ w'.cell? ⟨gd, 1, none⟩ = some vd1 ∧ w'.cell? ⟨gd, 2, none⟩ = some vd2 ∧ w'.cell? ⟨gd, 3, none⟩ = some vd3 ∧ w'.cell? ⟨ge, 0, none⟩ = some ve0 ∧ w'.cell? ⟨ge, 1, none⟩ = some ve1 ∧ w'.cell? ⟨ge, 2, none⟩ = some ve2 ∧ w'.cell? ⟨ge, 3, none⟩ = some ve3) (hb : Below w'.heap.size w' w'') : Below W.heap.size W w'' ∧ w''.cell? ⟨ga, 0, none⟩ = some va0 ∧ w''.cell? ⟨ga, 1, none⟩ = some va1 ∧ w''.cell? ⟨ga, 2, none⟩ = some va2 ∧ w''.cell? ⟨ga, 3, none⟩ = some va3 ∧ w''.cell? ⟨gb, 0, none⟩ = some vb0 ∧ w''.cell? ⟨gb, 1, none⟩ = some vb1 ∧ w''.cell? ⟨gb, 2, none⟩ = some vb2 ∧ w''.cell? ⟨gb, 3, none⟩ = some vb3 ∧ w''.cell? ⟨gc, 0, none⟩ = some vc0 ∧ w''.cell? ⟨gc, 1, none⟩ = some vc1 ∧ w''.cell? ⟨gc, 2, none⟩ = some vc2 ∧ w''.cell? ⟨gc, 3, none⟩ = some vc3 ∧ w''.cell? ⟨gd, 0, none⟩ = some vd0 ∧ w''.cell? ⟨gd, 1, none⟩ = some vd1 ∧ w''.cell? ⟨gd, 2, none⟩ = some vd2 ∧ w''.cell? ⟨gd, 3, none⟩ = some vd3 ∧ w''.cell? ⟨ge, 0, none⟩ = some ve0 ∧ w''.cell? ⟨ge, 1, none⟩ = some ve1 ∧ w''.cell? ⟨ge, 2, none⟩ = some ve2 ∧ w''.cell? ⟨ge, 3, none⟩ = some ve3 := by
  obtain ⟨b, c0, c1, c2, c3, c4, c5, c6, c7, c8, c9, c10, c11, c12, c13, c14, c15, c16, c17, c18, c19⟩ := h
  have hs := b.size
  exact ⟨b.trans (hb.mono hs), (hb.cell (p := ⟨ga, 0, none⟩) (Nat.lt_of_lt_of_le hga hs)).trans c0, (hb.cell (p := ⟨ga, 1, none⟩) (Nat.lt_of_lt_of_le hga hs)).trans c1, (hb.cell (p := ⟨ga, 2, none⟩) (Nat.lt_of_lt_of_le hga hs)).trans c2, (hb.cell (p := ⟨ga, 3, none⟩) (Nat.lt_of_lt_of_le hga hs)).trans c3, (hb.cell (p := ⟨gb, 0, none⟩) (Nat.lt_of_lt_of_le hgb hs)).trans c4, (hb.cell (p := ⟨gb, 1, none⟩) (Nat.lt_of_lt_of_le hgb hs)).trans c5, (hb.cell (p := ⟨gb, 2, none⟩) (Nat.lt_of_lt_of_le hgb hs)).trans c6, (hb.cell (p := ⟨gb, 3, none⟩) (Nat.lt_of_lt_of_le hgb hs)).trans c7, (hb.cell (p := ⟨gc, 0, none⟩) (Nat.lt_of_lt_of_le hgc hs)).trans c8, (hb.cell (p := ⟨gc, 1, none⟩) (Nat.lt_of_lt_of_le hgc hs)).trans c9, (hb.cell (p := ⟨gc, 2, none⟩) (Nat.lt_of_lt_of_le hgc hs)).trans c10, (hb.cell (p := ⟨gc, 3, none⟩) (Nat.lt_of_lt_of_le hgc hs)).trans c11, (hb.cell (p := ⟨gd, 0, none⟩) (Nat.lt_of_lt_of_le hgd hs)).trans c12, (hb.cell (p := ⟨gd, 1, none⟩) (Nat.lt_of_lt_of_le hgd hs)).trans c13, (hb.cell (p := ⟨gd, 2, none⟩) (Nat.lt_of_lt_of_le hgd hs)).trans c14, (hb.cell (p := ⟨gd, 3, none⟩) (Nat.lt_of_lt_of_le hgd hs)).trans c15, (hb.cell (p := ⟨ge, 0, none⟩) (Nat.lt_of_lt_of_le hge hs)).trans c16, (hb.cell (p := ⟨ge, 1, none⟩) (Nat.lt_of_lt_of_le hge hs)).trans c17, (hb.cell (p := ⟨ge, 2, none⟩) (Nat.lt_of_lt_of_le hge hs)).trans c18, (hb.cell (p := ⟨ge, 3, none⟩) (Nat.lt_of_lt_of_le hge hs)).trans c19⟩
theorem keepK5D {W w' : World} {ga gb gc gd ge : Nat} {va0 va1 va2 va3 vb0 vb1 vb2 vb3 vc0 vc1 vc2 vc3 vd0 vd1 vd2 vd3 ve0 ve1 ve2 ve3 : Value} (h : Below W.heap.size W w' ∧ w'.cell? ⟨ga, 0, none⟩ = some va0 ∧ w'.cell? ⟨ga, 1, none⟩ = some va1 ∧ w'.cell? ⟨ga, 2, none⟩ = some va2 ∧ w'.cell? ⟨ga, 3, none⟩ = some va3 ∧ w'.cell? ⟨gb, 0, none⟩ = some vb0 ∧ w'.cell? ⟨gb, 1, none⟩ = some vb1 ∧ w'.cell? ⟨gb, 2, none⟩ = some vb2 ∧ w'.cell? ⟨gb, 3, none⟩ = some vb3 ∧ w'.cell? ⟨gc, 0, none⟩ = some vc0 ∧ w'.cell? ⟨gc, 1, none⟩ = some vc1 ∧ w'.cell? ⟨gc, 2, none⟩ = some vc2 ∧ w'.cell? ⟨gc, 3, none⟩ = some vc3 ∧ w'.cell? ⟨gd, 0, none⟩ = some vd0 ∧ w'.cell? ⟨gd, 1, none⟩ = some vd1 ∧ w'.cell? ⟨gd, 2, none⟩ = some vd2 ∧ w'.cell? ⟨gd, 3, none⟩ = some vd3 ∧ w'.cell? ⟨ge, 0, none⟩ = some ve0 ∧ w'.cell? ⟨ge, 1, none⟩ = some ve1 ∧ w'.cell? ⟨ge, 2, none⟩ = some ve2 ∧ w'.cell? ⟨ge, 3, none⟩ = some ve3) : Below W.heap.size W w'.drew ∧ w'.drew.cell? ⟨ga, 0, none⟩ = some va0 ∧ w'.drew.cell? ⟨ga, 1, none⟩ = some va1 ∧ w'.drew.cell? ⟨ga, 2, none⟩ = some va2 ∧ w'.drew.cell? ⟨ga, 3, none⟩ = some va3 ∧ w'.drew.cell? ⟨gb, 0, none⟩ = some vb0 ∧ w'.drew.cell? ⟨gb, 1, none⟩ = some vb1 ∧ w'.drew.cell? ⟨gb, 2, none⟩ = some vb2 ∧ w'.drew.cell? ⟨gb, 3, none⟩ = some vb3 ∧ w'.drew.cell? ⟨gc, 0, none⟩ = some vc0 ∧ w'.drew.cell? ⟨gc, 1, none⟩ = some vc1 ∧ w'.drew.cell? ⟨gc, 2, none⟩ = some vc2 ∧ w'.drew.cell? ⟨gc, 3, none⟩ = some vc3 ∧ w'.drew.cell? ⟨gd, 0, none⟩ = some vd0 ∧ w'.drew.cell? ⟨gd, 1, none⟩ = some vd1 ∧ w'.drew.cell? ⟨gd, 2, none⟩ = some vd2 ∧ w'.drew.cell? ⟨gd, 3, none⟩ = some vd3 ∧ w'.drew.cell? ⟨ge, 0, none⟩ = some ve0 ∧ w'.drew.cell? ⟨ge, 1, none⟩ = some ve1 ∧ w'.drew.cell? ⟨ge, 2, none⟩ = some ve2 ∧ w'.drew.cell? ⟨ge, 3, none⟩ = some ve3 := ⟨h.1.drew, h.2⟩
set_option maxRecDepth 100000 in
set_option maxHeartbeats 4000000 in
theorem adds_walk (k : Snk) (r : Res) (hwf : r.Wf) (n : Int) (hn : wfL n) (v : Value) (w : World) (hv : KAt w v k) :
    Calls Try.prog 9 #[v, r.val, .int .i64 n] w fun e w' => e = .returned (.bool true) ∧ Below w.heap.size w w' := by
  have HV := Lib.hid hv
  have HS := Lib.hid (fun v W hW b hb => small_any k v W hW b hb)
  have HA := Lib.hid (fun v W hW => sadd_all k r hwf v W hW)
  have HB := Lib.hid (fun v W hW => radd_all k r hwf v W hW)
  have HC := Lib.hid (fun v W hW => sstg_all k n hn v W hW)
  have HD := Lib.hid (fun v W hW => rstg_all k n hn v W hW)
  have HR := Lib.hid (fun v W hW => sright_all k v W hW)
  have HQ := Lib.hid (fun v W hW => rright_all k v W hW)
  obtain ⟨q, hq⟩ : ∃ q, decide (k.st.length ≤ 20) = q := ⟨_, rfl⟩
  obtain ⟨kr, hkr⟩ : ∃ kr, k.right = kr := ⟨_, rfl⟩
  obtain ⟨ae, hae⟩ : ∃ ae, addE k r = ae := ⟨_, rfl⟩
  obtain ⟨se, hse⟩ : ∃ se, stgE k n = se := ⟨_, rfl⟩
  unfold AddTo at HA HB
  unfold StgTo at HC HD
  rw [hkr] at HR HQ
  rw [hae] at HA HB
  rw [hse] at HC HD
  have HQ1 := Lib.hid hq
  obtain ⟨A1, c1, A2, c2, A3, c3, rfl⟩ := k_form hv
  obtain ⟨rl, rh, rk, rn, rv⟩ := r
  unfold wfL at hn
  clear hv hq hkr hae hse
  unfold Res.val at HA HB ⊢
  go_enter Try.func9, Try.ntmps9
  go_wp2_with fail
  obtain ⟨W1, hW1⟩ : ∃ W1, W1 = (w.alloc (.cells #[.slice A1 k.op.length c1, .slice A2 k.st.length c2, .int .i64 k.last, .slice A3 k.out.length c3] 66)).alloc (.cells #[.int .i64 rl, .int .i64 rh, .string rk, .int .i64 rn, .int .i64 rv] 41) := ⟨_, rfl⟩
  rw [← hW1]
  have B0 := Lib.hid (show Below w.heap.size w W1 by rw [hW1]; exact bel_alloc (bel_alloc (Below.refl _ _) _) _)
  have K1 := Lib.hid (show W1.heap[w.heap.size + 1]? = some (.cells #[.int .i64 rl, .int .i64 rh, .string rk, .int .i64 rn, .int .i64 rv] 41 (0, 0)) by rw [hW1]; exact heap_at _ _ _ (by simp))
  have K0 := Lib.hid (show W1.heap[w.heap.size]? = some (.cells #[.slice A1 k.op.length c1, .slice A2 k.st.length c2, .int .i64 k.last, .slice A3 k.out.length c3] 66 (0, 0)) by rw [hW1]; exact newA (bel_alloc (Below.refl _ _) _))
  clear hW1
  refine (HS.out _ _ (HV.out.below B0.out) q HQ1.out).mono ?_
  rintro e w1 ⟨rfl, hb1⟩
  have B1 := Lib.hid (bThen B0.out hb1)
  have L0 := Lib.hid (heap_below K0.out hb1)
  have L1 := Lib.hid (heap_below K1.out hb1)
  clear hb1 K0 K1
  have hy0 := blk_lt L0.out
  have hy1 := blk_lt L1.out
  have s0 := cellsAt L0.out 0
  have s1 := cellsAt L0.out 1
  have s2 := cellsAt L0.out 2
  have s3 := cellsAt L0.out 3
  have r0 := cellsAt L1.out 0
  have r1 := cellsAt L1.out 1
  have r2 := cellsAt L1.out 2
  have r3 := cellsAt L1.out 3
  have r4 := cellsAt L1.out 4
  simp at s0 s1 s2 s3 r0 r1 r2 r3 r4
  cases q with
  | false =>
    go_wp2_with fail
    go_ret
    exact ⟨rfl, B1.out⟩
  | true =>
  go_wp2_with fail
  refine (HA.out _ _ (HV.out.below B1.out)).mono ?_
  rintro e w2 ⟨⟨va, rfl, hk⟩, hb⟩
  have B2 := Lib.hid (bThen B1.out hb)
  have Ka := Lib.hid hk
  have M0 := Lib.hid (heap_below L0.out hb)
  have M1 := Lib.hid (heap_below L1.out hb)
  clear s0 s1 s2 s3 r0 r1 r2 r3 r4 hy0 hy1
  obtain ⟨A1a, n1a, c1a, A2a, n2a, c2a, la, A3a, n3a, c3a, rfl⟩ := k_form3 hk
  clear hb hk L0 L1
  have hy0 := blk_lt M0.out
  have hy1 := blk_lt M1.out
  have s0 := cellsAt M0.out 0
  have s1 := cellsAt M0.out 1
  have s2 := cellsAt M0.out 2
  have s3 := cellsAt M0.out 3
  have r0 := cellsAt M1.out 0
  have r1 := cellsAt M1.out 1
  have r2 := cellsAt M1.out 2
  have r3 := cellsAt M1.out 3
  have r4 := cellsAt M1.out 4
  simp at s0 s1 s2 s3 r0 r1 r2 r3 r4
  go_wp2_with fail
  obtain ⟨Xa, hXa⟩ : ∃ X, X = w2.alloc (.cells #[.slice A1a n1a c1a, .slice A2a n2a c2a, .int .i64 la, .slice A3a n3a c3a] 66) := ⟨_, rfl⟩
  rw [← hXa]
  have bXa : Below w2.heap.size w2 Xa := by rw [hXa]; exact bel_alloc (Below.refl _ _) _
  have Bla := Lib.hid (show Xa.heap[w2.heap.size]? = some (.cells #[.slice A1a n1a c1a, .slice A2a n2a c2a, .int .i64 la, .slice A3a n3a c3a] 66 (0, 0)) by rw [hXa]; exact heap_at _ _ _ rfl)
  clear hXa
  have Bax := Lib.hid (bThen B2.out bXa)
  have T0 := Lib.hid (heap_below M0.out bXa)
  have T1 := Lib.hid (heap_below M1.out bXa)
  clear M0 M1
  have M0 := T0
  have M1 := T1
  clear T0 T1
  have Z := Lib.hid (KAt.below Ka.out bXa)
  clear Ka
  have Ka := Z
  clear Z
  clear bXa
  refine (HB.out _ _ (HV.out.below Bax.out)).mono ?_
  rintro e w3 ⟨⟨vb, rfl, hk⟩, hb⟩
  have B3 := Lib.hid (bThen Bax.out hb)
  have Kb := Lib.hid hk
  have Z := Lib.hid (KAt.below Ka.out hb)
  clear Ka
  have Ka := Z
  clear Z
  have Z := Lib.hid (heap_below Bla.out hb)
  clear Bla
  have Bla := Z
  clear Z
  have N0 := Lib.hid (heap_below M0.out hb)
  have N1 := Lib.hid (heap_below M1.out hb)
  clear s0 s1 s2 s3 r0 r1 r2 r3 r4 hy0 hy1
  obtain ⟨A1b, n1b, c1b, A2b, n2b, c2b, lb, A3b, n3b, c3b, rfl⟩ := k_form3 hk
  clear hb hk M0 M1
  have hy0 := blk_lt N0.out
  have hy1 := blk_lt N1.out
  have s0 := cellsAt N0.out 0
  have s1 := cellsAt N0.out 1
  have s2 := cellsAt N0.out 2
  have s3 := cellsAt N0.out 3
  have r0 := cellsAt N1.out 0
  have r1 := cellsAt N1.out 1
  have r2 := cellsAt N1.out 2
  have r3 := cellsAt N1.out 3
  have r4 := cellsAt N1.out 4
  simp at s0 s1 s2 s3 r0 r1 r2 r3 r4
  go_wp2_with fail
  obtain ⟨Xb, hXb⟩ : ∃ X, X = w3.alloc (.cells #[.slice A1b n1b c1b, .slice A2b n2b c2b, .int .i64 lb, .slice A3b n3b c3b] 66) := ⟨_, rfl⟩
  rw [← hXb]
  have bXb : Below w3.heap.size w3 Xb := by rw [hXb]; exact bel_alloc (Below.refl _ _) _
  have Blb := Lib.hid (show Xb.heap[w3.heap.size]? = some (.cells #[.slice A1b n1b c1b, .slice A2b n2b c2b, .int .i64 lb, .slice A3b n3b c3b] 66 (0, 0)) by rw [hXb]; exact heap_at _ _ _ rfl)
  clear hXb
  have Bbx := Lib.hid (bThen B3.out bXb)
  have T0 := Lib.hid (heap_below N0.out bXb)
  have T1 := Lib.hid (heap_below N1.out bXb)
  clear N0 N1
  have N0 := T0
  have N1 := T1
  clear T0 T1
  have Z := Lib.hid (KAt.below Ka.out bXb)
  clear Ka
  have Ka := Z
  clear Z
  have Z := Lib.hid (KAt.below Kb.out bXb)
  clear Kb
  have Kb := Z
  clear Z
  have Z := Lib.hid (heap_below Bla.out bXb)
  clear Bla
  have Bla := Z
  clear Z
  clear bXb
  refine (HC.out _ _ (HV.out.below Bbx.out)).mono ?_
  rintro e w4 ⟨⟨vc, voc, rfl, hk⟩, hb⟩
  have B4 := Lib.hid (bThen Bbx.out hb)
  have Kc := Lib.hid hk
  have Z := Lib.hid (KAt.below Ka.out hb)
  clear Ka
  have Ka := Z
  clear Z
  have Z := Lib.hid (KAt.below Kb.out hb)
  clear Kb
  have Kb := Z
  clear Z
  have Z := Lib.hid (heap_below Bla.out hb)
  clear Bla
  have Bla := Z
  clear Z
  have Z := Lib.hid (heap_below Blb.out hb)
  clear Blb
  have Blb := Z
  clear Z
  have P0 := Lib.hid (heap_below N0.out hb)
  have P1 := Lib.hid (heap_below N1.out hb)
  clear s0 s1 s2 s3 r0 r1 r2 r3 r4 hy0 hy1
  obtain ⟨A1c, n1c, c1c, A2c, n2c, c2c, lc, A3c, n3c, c3c, rfl⟩ := k_form3 hk
  clear hb hk N0 N1
  have hy0 := blk_lt P0.out
  have hy1 := blk_lt P1.out
  have s0 := cellsAt P0.out 0
  have s1 := cellsAt P0.out 1
  have s2 := cellsAt P0.out 2
  have s3 := cellsAt P0.out 3
  have r0 := cellsAt P1.out 0
  have r1 := cellsAt P1.out 1
  have r2 := cellsAt P1.out 2
  have r3 := cellsAt P1.out 3
  have r4 := cellsAt P1.out 4
  simp at s0 s1 s2 s3 r0 r1 r2 r3 r4
  go_wp2_with fail
  obtain ⟨Xc, hXc⟩ : ∃ X, X = w4.alloc (.cells #[.slice A1c n1c c1c, .slice A2c n2c c2c, .int .i64 lc, .slice A3c n3c c3c] 66) := ⟨_, rfl⟩
  rw [← hXc]
  have bXc : Below w4.heap.size w4 Xc := by rw [hXc]; exact bel_alloc (Below.refl _ _) _
  have Blc := Lib.hid (show Xc.heap[w4.heap.size]? = some (.cells #[.slice A1c n1c c1c, .slice A2c n2c c2c, .int .i64 lc, .slice A3c n3c c3c] 66 (0, 0)) by rw [hXc]; exact heap_at _ _ _ rfl)
  clear hXc
  have Bcx := Lib.hid (bThen B4.out bXc)
  have T0 := Lib.hid (heap_below P0.out bXc)
  have T1 := Lib.hid (heap_below P1.out bXc)
  clear P0 P1
  have P0 := T0
  have P1 := T1
  clear T0 T1
  have Z := Lib.hid (KAt.below Ka.out bXc)
  clear Ka
  have Ka := Z
  clear Z
  have Z := Lib.hid (KAt.below Kb.out bXc)
  clear Kb
  have Kb := Z
  clear Z
  have Z := Lib.hid (KAt.below Kc.out bXc)
  clear Kc
  have Kc := Z
  clear Z
  have Z := Lib.hid (heap_below Bla.out bXc)
  clear Bla
  have Bla := Z
  clear Z
  have Z := Lib.hid (heap_below Blb.out bXc)
  clear Blb
  have Blb := Z
  clear Z
  clear bXc
  refine (HD.out _ _ (HV.out.below Bcx.out)).mono ?_
  rintro e w5 ⟨⟨vd, vod, rfl, hk⟩, hb⟩
  have B5 := Lib.hid (bThen Bcx.out hb)
  have Kd := Lib.hid hk
  have Z := Lib.hid (KAt.below Ka.out hb)
  clear Ka
  have Ka := Z
  clear Z
  have Z := Lib.hid (KAt.below Kb.out hb)
  clear Kb
  have Kb := Z
  clear Z
  have Z := Lib.hid (KAt.below Kc.out hb)
  clear Kc
  have Kc := Z
  clear Z
  have Z := Lib.hid (heap_below Bla.out hb)
  clear Bla
  have Bla := Z
  clear Z
  have Z := Lib.hid (heap_below Blb.out hb)
  clear Blb
  have Blb := Z
  clear Z
  have Z := Lib.hid (heap_below Blc.out hb)
  clear Blc
  have Blc := Z
  clear Z
  have Q0 := Lib.hid (heap_below P0.out hb)
  have Q1 := Lib.hid (heap_below P1.out hb)
  clear s0 s1 s2 s3 r0 r1 r2 r3 r4 hy0 hy1
  obtain ⟨A1d, n1d, c1d, A2d, n2d, c2d, ld, A3d, n3d, c3d, rfl⟩ := k_form3 hk
  clear hb hk P0 P1
  have hy0 := blk_lt Q0.out
  have hy1 := blk_lt Q1.out
  have s0 := cellsAt Q0.out 0
  have s1 := cellsAt Q0.out 1
  have s2 := cellsAt Q0.out 2
  have s3 := cellsAt Q0.out 3
  have r0 := cellsAt Q1.out 0
  have r1 := cellsAt Q1.out 1
  have r2 := cellsAt Q1.out 2
  have r3 := cellsAt Q1.out 3
  have r4 := cellsAt Q1.out 4
  simp at s0 s1 s2 s3 r0 r1 r2 r3 r4
  go_wp2_with fail
  obtain ⟨W, hW⟩ : ∃ X, X = w5.alloc (.cells #[.slice A1d n1d c1d, .slice A2d n2d c2d, .int .i64 ld, .slice A3d n3d c3d] 66) := ⟨_, rfl⟩
  rw [← hW]
  have bX : Below w5.heap.size w5 W := by rw [hW]; exact bel_alloc (Below.refl _ _) _
  have Bld := Lib.hid (show W.heap[w5.heap.size]? = some (.cells #[.slice A1d n1d c1d, .slice A2d n2d c2d, .int .i64 ld, .slice A3d n3d c3d] 66 (0, 0)) by rw [hW]; exact heap_at _ _ _ rfl)
  clear hW
  have BW := Lib.hid (bThen B5.out bX)
  have Z := Lib.hid (KAt.below Ka.out bX)
  clear Ka
  have Ka := Z
  clear Z
  have Z := Lib.hid (KAt.below Kb.out bX)
  clear Kb
  have Kb := Z
  clear Z
  have Z := Lib.hid (KAt.below Kc.out bX)
  clear Kc
  have Kc := Z
  clear Z
  have Z := Lib.hid (KAt.below Kd.out bX)
  clear Kd
  have Kd := Z
  clear Z
  have Z := Lib.hid (heap_below Bla.out bX)
  clear Bla
  have Bla := Z
  clear Z
  have Z := Lib.hid (heap_below Blb.out bX)
  clear Blb
  have Blb := Z
  clear Z
  have Z := Lib.hid (heap_below Blc.out bX)
  clear Blc
  have Blc := Z
  clear Z
  have Bls := Lib.hid (heap_below Q0.out bX)
  clear Q0 Q1 bX
  clear s0 s1 s2 s3 r0 r1 r2 r3 r4 hy0 hy1
  have KV := Lib.hid (HV.out.below BW.out)
  obtain ⟨ga, hga⟩ : ∃ g, g = w2.heap.size := ⟨_, rfl⟩
  obtain ⟨gb, hgb⟩ : ∃ g, g = w3.heap.size := ⟨_, rfl⟩
  obtain ⟨gc, hgc⟩ : ∃ g, g = w4.heap.size := ⟨_, rfl⟩
  obtain ⟨gd, hgd⟩ : ∃ g, g = w5.heap.size := ⟨_, rfl⟩
  rw [← hga] at Bla
  rw [← hgb] at Blb
  rw [← hgc] at Blc
  rw [← hgd] at Bld
  rw [← hga, ← hgb, ← hgc, ← hgd]
  have gs := blk_lt Bls.out
  have ga' := blk_lt Bla.out
  have gb' := blk_lt Blb.out
  have gc' := blk_lt Blc.out
  have gd' := blk_lt Bld.out
  have hS : Below W.heap.size W W ∧ W.cell? ⟨w.heap.size, 0, none⟩ = some (.slice A1 k.op.length c1) ∧ W.cell? ⟨w.heap.size, 1, none⟩ = some (.slice A2 k.st.length c2) ∧ W.cell? ⟨w.heap.size, 2, none⟩ = some (.int .i64 k.last) ∧ W.cell? ⟨w.heap.size, 3, none⟩ = some (.slice A3 k.out.length c3) ∧ W.cell? ⟨ga, 0, none⟩ = some (.slice A1a n1a c1a) ∧ W.cell? ⟨ga, 1, none⟩ = some (.slice A2a n2a c2a) ∧ W.cell? ⟨ga, 2, none⟩ = some (.int .i64 la) ∧ W.cell? ⟨ga, 3, none⟩ = some (.slice A3a n3a c3a) ∧ W.cell? ⟨gb, 0, none⟩ = some (.slice A1b n1b c1b) ∧ W.cell? ⟨gb, 1, none⟩ = some (.slice A2b n2b c2b) ∧ W.cell? ⟨gb, 2, none⟩ = some (.int .i64 lb) ∧ W.cell? ⟨gb, 3, none⟩ = some (.slice A3b n3b c3b) ∧ W.cell? ⟨gc, 0, none⟩ = some (.slice A1c n1c c1c) ∧ W.cell? ⟨gc, 1, none⟩ = some (.slice A2c n2c c2c) ∧ W.cell? ⟨gc, 2, none⟩ = some (.int .i64 lc) ∧ W.cell? ⟨gc, 3, none⟩ = some (.slice A3c n3c c3c) ∧ W.cell? ⟨gd, 0, none⟩ = some (.slice A1d n1d c1d) ∧ W.cell? ⟨gd, 1, none⟩ = some (.slice A2d n2d c2d) ∧ W.cell? ⟨gd, 2, none⟩ = some (.int .i64 ld) ∧ W.cell? ⟨gd, 3, none⟩ = some (.slice A3d n3d c3d) := ⟨Below.refl _ _, cellsAt Bls.out 0, cellsAt Bls.out 1, cellsAt Bls.out 2, cellsAt Bls.out 3, cellsAt Bla.out 0, cellsAt Bla.out 1, cellsAt Bla.out 2, cellsAt Bla.out 3, cellsAt Blb.out 0, cellsAt Blb.out 1, cellsAt Blb.out 2, cellsAt Blb.out 3, cellsAt Blc.out 0, cellsAt Blc.out 1, cellsAt Blc.out 2, cellsAt Blc.out 3, cellsAt Bld.out 0, cellsAt Bld.out 1, cellsAt Bld.out 2, cellsAt Bld.out 3⟩
  have CA := Lib.hid (fun w' (hb : Below W.heap.size W w') => like_all _ _ (likeK_self (addK k ⟨rl, rh, rk, rn, rv⟩)) _ _ w' (Ka.out.below hb) (Kb.out.below hb))
  have CC := Lib.hid (fun w' (hb : Below W.heap.size W w') => like_all _ _ (stgK_like k n voc vod) _ _ w' (Kc.out.below hb) (Kd.out.below hb))
  have CR := Lib.hid (fun w' (hb : Below W.heap.size W w') => HR.out _ w' (KV.out.below hb))
  have CQ := Lib.hid (fun w' (hb : Below W.heap.size W w') => HQ.out _ w' (KV.out.below hb))
  clear hga hgb hgc hgd Bls Bla Blb Blc Bld KV Ka Kb Kc Kd HR HQ HA HB HC HD HS HQ1 HV
  go_region_held3 (fun w' => Below W.heap.size W w' ∧ w'.cell? ⟨w.heap.size, 0, none⟩ = some (.slice A1 k.op.length c1) ∧ w'.cell? ⟨w.heap.size, 1, none⟩ = some (.slice A2 k.st.length c2) ∧ w'.cell? ⟨w.heap.size, 2, none⟩ = some (.int .i64 k.last) ∧ w'.cell? ⟨w.heap.size, 3, none⟩ = some (.slice A3 k.out.length c3) ∧ w'.cell? ⟨ga, 0, none⟩ = some (.slice A1a n1a c1a) ∧ w'.cell? ⟨ga, 1, none⟩ = some (.slice A2a n2a c2a) ∧ w'.cell? ⟨ga, 2, none⟩ = some (.int .i64 la) ∧ w'.cell? ⟨ga, 3, none⟩ = some (.slice A3a n3a c3a) ∧ w'.cell? ⟨gb, 0, none⟩ = some (.slice A1b n1b c1b) ∧ w'.cell? ⟨gb, 1, none⟩ = some (.slice A2b n2b c2b) ∧ w'.cell? ⟨gb, 2, none⟩ = some (.int .i64 lb) ∧ w'.cell? ⟨gb, 3, none⟩ = some (.slice A3b n3b c3b) ∧ w'.cell? ⟨gc, 0, none⟩ = some (.slice A1c n1c c1c) ∧ w'.cell? ⟨gc, 1, none⟩ = some (.slice A2c n2c c2c) ∧ w'.cell? ⟨gc, 2, none⟩ = some (.int .i64 lc) ∧ w'.cell? ⟨gc, 3, none⟩ = some (.slice A3c n3c c3c) ∧ w'.cell? ⟨gd, 0, none⟩ = some (.slice A1d n1d c1d) ∧ w'.cell? ⟨gd, 1, none⟩ = some (.slice A2d n2d c2d) ∧ w'.cell? ⟨gd, 2, none⟩ = some (.int .i64 ld) ∧ w'.cell? ⟨gd, 3, none⟩ = some (.slice A3d n3d c3d)) (first | assumption | exact keepK5D (by assumption) | exact keepK5 (by assumption) (by assumption) (by assumption) (by assumption) (by assumption) (by assumption) (by assumption)) (first | (go_at_call 34; refine (alive_any _).mono ?_; rintro e wx ⟨rfl, hbx⟩) | (go_at_call 37; with_reducible refine (CA.out _ (And.left (by assumption))).mono ?_; rintro e wx ⟨rfl, hbx⟩) | (go_at_call 37; refine (CC.out _ (And.left (by assumption))).mono ?_; rintro e wx ⟨rfl, hbx⟩) | (go_at_call 35; refine (CR.out _ (And.left (by assumption))).mono ?_; rintro e wx ⟨rfl, hbx⟩) | (go_at_call 36; refine (CQ.out _ (And.left (by assumption))).mono ?_; rintro e wx ⟨rfl, hbx⟩))
  go_wp2_with fail
  go_ret
  exact ⟨rfl, bThen BW.out (by first | assumption | exact And.left (by assumption))⟩
end Go.Proofs.Ytenpgkkefielfaa
