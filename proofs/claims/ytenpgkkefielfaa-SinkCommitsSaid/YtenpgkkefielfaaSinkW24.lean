/-
  WALKS of layer 19: the law SinkCommits.
-/
import Derived.Test.YtenpgkkefielfaaSinkW18
import Derived.Test.YtenpgkkefielfaaSinkW23
namespace Go.Proofs.Ytenpgkkefielfaa
open Go.RowKit

set_option maxRecDepth 100000 in
set_option maxHeartbeats 4000000 in
theorem commits_walk (k : Snk) (n : Int) (hn : wfL n) (v : Value) (w : World) (hv : KAt w v k) :
    Calls Try.prog 11 #[v, .int .i64 n] w fun e w' => e = .returned (.bool true) ∧ Below w.heap.size w w' := by
  have HV := Lib.hid hv
  have HS := Lib.hid (fun v W hW b hb => small_any k v W hW b hb)
  have HA := Lib.hid (fun v W hW => scom_all k n hn v W hW)
  have HB := Lib.hid (fun v W hW => rcom_all k n hn v W hW)
  have HC := Lib.hid (fun v W hW => sabo_all k v W hW)
  have HD := Lib.hid (fun v W hW => rabo_all k v W hW)
  obtain ⟨q, hq⟩ : ∃ q, decide (k.st.length ≤ 20) = q := ⟨_, rfl⟩
  obtain ⟨ae, hae⟩ : ∃ ae, comE k n = ae := ⟨_, rfl⟩
  obtain ⟨se, hse⟩ : ∃ se, aboE k = se := ⟨_, rfl⟩
  unfold ComTo at HA HB
  unfold AboTo at HC HD
  rw [hae] at HA HB
  rw [hse] at HC HD
  have HQ1 := Lib.hid hq
  obtain ⟨A1, c1, A2, c2, A3, c3, rfl⟩ := k_form hv
  unfold wfL at hn
  clear hv hq hae hse
  go_enter Try.func11, Try.ntmps11
  go_wp2_with fail
  obtain ⟨W1, hW1⟩ : ∃ W1, W1 = w.alloc (.cells #[.slice A1 k.op.length c1, .slice A2 k.st.length c2, .int .i64 k.last, .slice A3 k.out.length c3] 66) := ⟨_, rfl⟩
  rw [← hW1]
  have B0 := Lib.hid (show Below w.heap.size w W1 by rw [hW1]; exact bel_alloc (Below.refl _ _) _)
  have K0 := Lib.hid (show W1.heap[w.heap.size]? = some (.cells #[.slice A1 k.op.length c1, .slice A2 k.st.length c2, .int .i64 k.last, .slice A3 k.out.length c3] 66 (0, 0)) by rw [hW1]; exact heap_at _ _ _ rfl)
  clear hW1
  refine (HS.out _ _ (HV.out.below B0.out) q HQ1.out).mono ?_
  rintro e w1 ⟨rfl, hb1⟩
  have B1 := Lib.hid (bThen B0.out hb1)
  have L0 := Lib.hid (heap_below K0.out hb1)
  clear hb1 K0
  have hy0 := blk_lt L0.out
  have s0 := cellsAt L0.out 0
  have s1 := cellsAt L0.out 1
  have s2 := cellsAt L0.out 2
  have s3 := cellsAt L0.out 3
  simp at s0 s1 s2 s3
  cases q with
  | false =>
    go_wp2_with fail
    go_ret
    exact ⟨rfl, B1.out⟩
  | true =>
  go_wp2_with fail
  refine (HA.out _ _ (HV.out.below B1.out)).mono ?_
  rintro e w2 ⟨⟨va, rfl, hk⟩, hb⟩
  have B2 := Lib.hid (bThen B1.out hb)
  have Ka := Lib.hid hk
  have M0 := Lib.hid (heap_below L0.out hb)
  clear s0 s1 s2 s3 hy0
  obtain ⟨A1a, n1a, c1a, A2a, n2a, c2a, la, A3a, n3a, c3a, rfl⟩ := k_form3 hk
  clear hb hk L0
  have hy0 := blk_lt M0.out
  have s0 := cellsAt M0.out 0
  have s1 := cellsAt M0.out 1
  have s2 := cellsAt M0.out 2
  have s3 := cellsAt M0.out 3
  simp at s0 s1 s2 s3
  go_wp2_with fail
  obtain ⟨Xa, hXa⟩ : ∃ X, X = w2.alloc (.cells #[.slice A1a n1a c1a, .slice A2a n2a c2a, .int .i64 la, .slice A3a n3a c3a] 66) := ⟨_, rfl⟩
  rw [← hXa]
  have bXa : Below w2.heap.size w2 Xa := by rw [hXa]; exact bel_alloc (Below.refl _ _) _
  have Bla := Lib.hid (show Xa.heap[w2.heap.size]? = some (.cells #[.slice A1a n1a c1a, .slice A2a n2a c2a, .int .i64 la, .slice A3a n3a c3a] 66 (0, 0)) by rw [hXa]; exact heap_at _ _ _ rfl)
  clear hXa
  have Bax := Lib.hid (bThen B2.out bXa)
  have T0 := Lib.hid (heap_below M0.out bXa)
  clear M0
  have M0 := T0
  clear T0
  have Z := Lib.hid (KAt.below Ka.out bXa)
  clear Ka
  have Ka := Z
  clear Z
  clear bXa
  refine (HB.out _ _ (HV.out.below Bax.out)).mono ?_
  rintro e w3 ⟨⟨vb, rfl, hk⟩, hb⟩
  have B3 := Lib.hid (bThen Bax.out hb)
  have Kb := Lib.hid hk
  have Z := Lib.hid (KAt.below Ka.out hb)
  clear Ka
  have Ka := Z
  clear Z
  have Z := Lib.hid (heap_below Bla.out hb)
  clear Bla
  have Bla := Z
  clear Z
  have N0 := Lib.hid (heap_below M0.out hb)
  clear s0 s1 s2 s3 hy0
  obtain ⟨A1b, n1b, c1b, A2b, n2b, c2b, lb, A3b, n3b, c3b, rfl⟩ := k_form3 hk
  clear hb hk M0
  have hy0 := blk_lt N0.out
  have s0 := cellsAt N0.out 0
  have s1 := cellsAt N0.out 1
  have s2 := cellsAt N0.out 2
  have s3 := cellsAt N0.out 3
  simp at s0 s1 s2 s3
  go_wp2_with fail
  obtain ⟨Xb, hXb⟩ : ∃ X, X = w3.alloc (.cells #[.slice A1b n1b c1b, .slice A2b n2b c2b, .int .i64 lb, .slice A3b n3b c3b] 66) := ⟨_, rfl⟩
  rw [← hXb]
  have bXb : Below w3.heap.size w3 Xb := by rw [hXb]; exact bel_alloc (Below.refl _ _) _
  have Blb := Lib.hid (show Xb.heap[w3.heap.size]? = some (.cells #[.slice A1b n1b c1b, .slice A2b n2b c2b, .int .i64 lb, .slice A3b n3b c3b] 66 (0, 0)) by rw [hXb]; exact heap_at _ _ _ rfl)
  clear hXb
  have Bbx := Lib.hid (bThen B3.out bXb)
  have T0 := Lib.hid (heap_below N0.out bXb)
  clear N0
  have N0 := T0
  clear T0
  have Z := Lib.hid (KAt.below Ka.out bXb)
  clear Ka
  have Ka := Z
  clear Z
  have Z := Lib.hid (KAt.below Kb.out bXb)
  clear Kb
  have Kb := Z
  clear Z
  have Z := Lib.hid (heap_below Bla.out bXb)
  clear Bla
  have Bla := Z
  clear Z
  clear bXb
  refine (HC.out _ _ (HV.out.below Bbx.out)).mono ?_
  rintro e w4 ⟨⟨vc, rfl, hk⟩, hb⟩
  have B4 := Lib.hid (bThen Bbx.out hb)
  have Kc := Lib.hid hk
  have Z := Lib.hid (KAt.below Ka.out hb)
  clear Ka
  have Ka := Z
  clear Z
  have Z := Lib.hid (KAt.below Kb.out hb)
  clear Kb
  have Kb := Z
  clear Z
  have Z := Lib.hid (heap_below Bla.out hb)
  clear Bla
  have Bla := Z
  clear Z
  have Z := Lib.hid (heap_below Blb.out hb)
  clear Blb
  have Blb := Z
  clear Z
  have P0 := Lib.hid (heap_below N0.out hb)
  clear s0 s1 s2 s3 hy0
  obtain ⟨A1c, n1c, c1c, A2c, n2c, c2c, lc, A3c, n3c, c3c, rfl⟩ := k_form3 hk
  clear hb hk N0
  have hy0 := blk_lt P0.out
  have s0 := cellsAt P0.out 0
  have s1 := cellsAt P0.out 1
  have s2 := cellsAt P0.out 2
  have s3 := cellsAt P0.out 3
  simp at s0 s1 s2 s3
  go_wp2_with fail
  obtain ⟨Xc, hXc⟩ : ∃ X, X = w4.alloc (.cells #[.slice A1c n1c c1c, .slice A2c n2c c2c, .int .i64 lc, .slice A3c n3c c3c] 66) := ⟨_, rfl⟩
  rw [← hXc]
  have bXc : Below w4.heap.size w4 Xc := by rw [hXc]; exact bel_alloc (Below.refl _ _) _
  have Blc := Lib.hid (show Xc.heap[w4.heap.size]? = some (.cells #[.slice A1c n1c c1c, .slice A2c n2c c2c, .int .i64 lc, .slice A3c n3c c3c] 66 (0, 0)) by rw [hXc]; exact heap_at _ _ _ rfl)
  clear hXc
  have Bcx := Lib.hid (bThen B4.out bXc)
  have T0 := Lib.hid (heap_below P0.out bXc)
  clear P0
  have P0 := T0
  clear T0
  have Z := Lib.hid (KAt.below Ka.out bXc)
  clear Ka
  have Ka := Z
  clear Z
  have Z := Lib.hid (KAt.below Kb.out bXc)
  clear Kb
  have Kb := Z
  clear Z
  have Z := Lib.hid (KAt.below Kc.out bXc)
  clear Kc
  have Kc := Z
  clear Z
  have Z := Lib.hid (heap_below Bla.out bXc)
  clear Bla
  have Bla := Z
  clear Z
  have Z := Lib.hid (heap_below Blb.out bXc)
  clear Blb
  have Blb := Z
  clear Z
  clear bXc
  refine (HD.out _ _ (HV.out.below Bcx.out)).mono ?_
  rintro e w5 ⟨⟨vd, rfl, hk⟩, hb⟩
  have B5 := Lib.hid (bThen Bcx.out hb)
  have Kd := Lib.hid hk
  have Z := Lib.hid (KAt.below Ka.out hb)
  clear Ka
  have Ka := Z
  clear Z
  have Z := Lib.hid (KAt.below Kb.out hb)
  clear Kb
  have Kb := Z
  clear Z
  have Z := Lib.hid (KAt.below Kc.out hb)
  clear Kc
  have Kc := Z
  clear Z
  have Z := Lib.hid (heap_below Bla.out hb)
  clear Bla
  have Bla := Z
  clear Z
  have Z := Lib.hid (heap_below Blb.out hb)
  clear Blb
  have Blb := Z
  clear Z
  have Z := Lib.hid (heap_below Blc.out hb)
  clear Blc
  have Blc := Z
  clear Z
  have Q0 := Lib.hid (heap_below P0.out hb)
  clear s0 s1 s2 s3 hy0
  obtain ⟨A1d, n1d, c1d, A2d, n2d, c2d, ld, A3d, n3d, c3d, rfl⟩ := k_form3 hk
  clear hb hk P0
  have hy0 := blk_lt Q0.out
  have s0 := cellsAt Q0.out 0
  have s1 := cellsAt Q0.out 1
  have s2 := cellsAt Q0.out 2
  have s3 := cellsAt Q0.out 3
  simp at s0 s1 s2 s3
  go_wp2_with fail
  obtain ⟨W, hW⟩ : ∃ X, X = w5.alloc (.cells #[.slice A1d n1d c1d, .slice A2d n2d c2d, .int .i64 ld, .slice A3d n3d c3d] 66) := ⟨_, rfl⟩
  rw [← hW]
  have bX : Below w5.heap.size w5 W := by rw [hW]; exact bel_alloc (Below.refl _ _) _
  have Bld := Lib.hid (show W.heap[w5.heap.size]? = some (.cells #[.slice A1d n1d c1d, .slice A2d n2d c2d, .int .i64 ld, .slice A3d n3d c3d] 66 (0, 0)) by rw [hW]; exact heap_at _ _ _ rfl)
  clear hW
  have BW := Lib.hid (bThen B5.out bX)
  have Z := Lib.hid (KAt.below Ka.out bX)
  clear Ka
  have Ka := Z
  clear Z
  have Z := Lib.hid (KAt.below Kb.out bX)
  clear Kb
  have Kb := Z
  clear Z
  have Z := Lib.hid (KAt.below Kc.out bX)
  clear Kc
  have Kc := Z
  clear Z
  have Z := Lib.hid (KAt.below Kd.out bX)
  clear Kd
  have Kd := Z
  clear Z
  have Z := Lib.hid (heap_below Bla.out bX)
  clear Bla
  have Bla := Z
  clear Z
  have Z := Lib.hid (heap_below Blb.out bX)
  clear Blb
  have Blb := Z
  clear Z
  have Z := Lib.hid (heap_below Blc.out bX)
  clear Blc
  have Blc := Z
  clear Z
  have Bls := Lib.hid (heap_below Q0.out bX)
  clear Q0 bX
  clear s0 s1 s2 s3 hy0
  have KV := Lib.hid (HV.out.below BW.out)
  obtain ⟨ga, hga⟩ : ∃ g, g = w2.heap.size := ⟨_, rfl⟩
  obtain ⟨gb, hgb⟩ : ∃ g, g = w3.heap.size := ⟨_, rfl⟩
  obtain ⟨gc, hgc⟩ : ∃ g, g = w4.heap.size := ⟨_, rfl⟩
  obtain ⟨gd, hgd⟩ : ∃ g, g = w5.heap.size := ⟨_, rfl⟩
  rw [← hga] at Bla
  rw [← hgb] at Blb
  rw [← hgc] at Blc
  rw [← hgd] at Bld
  rw [← hga, ← hgb, ← hgc, ← hgd]
  have gs := blk_lt Bls.out
  have ga' := blk_lt Bla.out
  have gb' := blk_lt Blb.out
  have gc' := blk_lt Blc.out
  have gd' := blk_lt Bld.out
  have hS : Below W.heap.size W W ∧ W.cell? ⟨w.heap.size, 0, none⟩ = some (.slice A1 k.op.length c1) ∧ W.cell? ⟨w.heap.size, 1, none⟩ = some (.slice A2 k.st.length c2) ∧ W.cell? ⟨w.heap.size, 2, none⟩ = some (.int .i64 k.last) ∧ W.cell? ⟨w.heap.size, 3, none⟩ = some (.slice A3 k.out.length c3) ∧ W.cell? ⟨ga, 0, none⟩ = some (.slice A1a n1a c1a) ∧ W.cell? ⟨ga, 1, none⟩ = some (.slice A2a n2a c2a) ∧ W.cell? ⟨ga, 2, none⟩ = some (.int .i64 la) ∧ W.cell? ⟨ga, 3, none⟩ = some (.slice A3a n3a c3a) ∧ W.cell? ⟨gb, 0, none⟩ = some (.slice A1b n1b c1b) ∧ W.cell? ⟨gb, 1, none⟩ = some (.slice A2b n2b c2b) ∧ W.cell? ⟨gb, 2, none⟩ = some (.int .i64 lb) ∧ W.cell? ⟨gb, 3, none⟩ = some (.slice A3b n3b c3b) ∧ W.cell? ⟨gc, 0, none⟩ = some (.slice A1c n1c c1c) ∧ W.cell? ⟨gc, 1, none⟩ = some (.slice A2c n2c c2c) ∧ W.cell? ⟨gc, 2, none⟩ = some (.int .i64 lc) ∧ W.cell? ⟨gc, 3, none⟩ = some (.slice A3c n3c c3c) ∧ W.cell? ⟨gd, 0, none⟩ = some (.slice A1d n1d c1d) ∧ W.cell? ⟨gd, 1, none⟩ = some (.slice A2d n2d c2d) ∧ W.cell? ⟨gd, 2, none⟩ = some (.int .i64 ld) ∧ W.cell? ⟨gd, 3, none⟩ = some (.slice A3d n3d c3d) := ⟨Below.refl _ _, cellsAt Bls.out 0, cellsAt Bls.out 1, cellsAt Bls.out 2, cellsAt Bls.out 3, cellsAt Bla.out 0, cellsAt Bla.out 1, cellsAt Bla.out 2, cellsAt Bla.out 3, cellsAt Blb.out 0, cellsAt Blb.out 1, cellsAt Blb.out 2, cellsAt Blb.out 3, cellsAt Blc.out 0, cellsAt Blc.out 1, cellsAt Blc.out 2, cellsAt Blc.out 3, cellsAt Bld.out 0, cellsAt Bld.out 1, cellsAt Bld.out 2, cellsAt Bld.out 3⟩
  have CA := Lib.hid (fun w' (hb : Below W.heap.size W w') => like_all _ _ (likeK_self (comK k n)) _ _ w' (Ka.out.below hb) (Kb.out.below hb))
  have CC := Lib.hid (fun w' (hb : Below W.heap.size W w') => like_all _ _ (likeK_self (aboK k)) _ _ w' (Kc.out.below hb) (Kd.out.below hb))
  clear hga hgb hgc hgd Bls KV Ka Kb Kc Kd HA HB HC HD HS HQ1 HV hS gs
  refine (alive_any _).mono ?_
  rintro e w6 ⟨rfl, hb6⟩
  have Ea := Lib.hid (heap_below Bla.out hb6)
  have Eb := Lib.hid (heap_below Blb.out hb6)
  have Ec := Lib.hid (heap_below Blc.out hb6)
  have Ed := Lib.hid (heap_below Bld.out hb6)
  have za := blk_lt Ea.out
  have zb := blk_lt Eb.out
  have xa0 := cellsAt Ea.out 0
  have xa1 := cellsAt Ea.out 1
  have xa2 := cellsAt Ea.out 2
  have xa3 := cellsAt Ea.out 3
  have xb0 := cellsAt Eb.out 0
  have xb1 := cellsAt Eb.out 1
  have xb2 := cellsAt Eb.out 2
  have xb3 := cellsAt Eb.out 3
  simp at xa0 xa1 xa2 xa3 xb0 xb1 xb2 xb3
  go_wp2_with fail
  refine (CA.out _ hb6).mono ?_
  rintro e w7 ⟨rfl, hb7⟩
  have B7 := bThen hb6 hb7
  have Fc := Lib.hid (heap_below Ec.out hb7)
  have Fd := Lib.hid (heap_below Ed.out hb7)
  have yc := blk_lt Fc.out
  have yd := blk_lt Fd.out
  have xc0 := cellsAt Fc.out 0
  have xc1 := cellsAt Fc.out 1
  have xc2 := cellsAt Fc.out 2
  have xc3 := cellsAt Fc.out 3
  have xd0 := cellsAt Fd.out 0
  have xd1 := cellsAt Fd.out 1
  have xd2 := cellsAt Fd.out 2
  have xd3 := cellsAt Fd.out 3
  simp at xc0 xc1 xc2 xc3 xd0 xd1 xd2 xd3
  go_wp2_with fail
  refine (CC.out _ B7).mono ?_
  rintro e w8 ⟨rfl, hb8⟩
  go_wp2_with fail
  go_ret
  exact ⟨rfl, bThen BW.out (bThen B7 hb8)⟩
end Go.Proofs.Ytenpgkkefielfaa
