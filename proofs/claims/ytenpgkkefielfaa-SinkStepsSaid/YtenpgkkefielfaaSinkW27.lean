/-
  WALKS of layer 19: the law SinkAgain.
-/
import Derived.Test.YtenpgkkefielfaaSinkW18
import Derived.Test.YtenpgkkefielfaaSinkW26
namespace Go.Proofs.Ytenpgkkefielfaa
open Go.RowKit

theorem k_parts {W : World} {A1 A2 A3 : Option Addr} {n1 n2 n3 c1 c2 c3 : Nat} {l : Int} {k : Snk} (h : KAt W (.agg #[.slice A1 n1 c1, .slice A2 n2 c2, .int .i64 l, .slice A3 n3 c3]) k) :
    (n1 = k.op.length ∧ n2 = k.st.length ∧ l = k.last ∧ n3 = k.out.length) ∧ RowR W (.slice A1 n1 c1) k.op ∧ RowR W (.slice A3 n3 c3) k.out := by
  obtain ⟨vo, vs, vu, e, h1, ⟨h2, -, -⟩, -, h6⟩ := h
  injection e with e
  injection e with e
  simp at e
  obtain ⟨rfl, rfl, rfl, rfl⟩ := e
  refine ⟨⟨?_, ?_, rfl, ?_⟩, h1, h6⟩
  · obtain ⟨⟨_, _, e, -⟩, -⟩ := h1; injection e
  · obtain ⟨_, _, e, -⟩ := h2; injection e
  · obtain ⟨⟨_, _, e, -⟩, -⟩ := h6; injection e
set_option maxRecDepth 100000 in
set_option maxHeartbeats 8000000 in
theorem again_walk (k : Snk) (n m : Int) (hn : wfL n) (hm : wfL m) (v : Value) (w : World) (hv : KAt w v k) :
    Calls Try.prog 10 #[v, .int .i64 n, .int .i64 m] w fun e w' => e = .returned (.bool true) ∧ Below w.heap.size w w' := by
  have HV := Lib.hid hv
  have HS := Lib.hid (fun v W hW b hb => small_any k v W hW b hb)
  have HA := Lib.hid (fun v W hW => scom_all k n hn v W hW)
  obtain ⟨q, hq⟩ : ∃ q, decide (k.st.length ≤ 20) = q := ⟨_, rfl⟩
  have HQ1 := Lib.hid hq
  obtain ⟨ae, hae⟩ : ∃ ae, comE k n = ae := ⟨_, rfl⟩
  obtain ⟨k1, hk1⟩ : ∃ k1, comK k n = k1 := ⟨_, rfl⟩
  unfold ComTo at HA
  rw [hae, hk1] at HA
  have HE := Lib.hid hae
  have HK1 := Lib.hid hk1
  obtain ⟨A1, c1, A2, c2, A3, c3, rfl⟩ := k_form hv
  have HN := Lib.hid hn
  have HM := Lib.hid hm
  unfold wfL at hn hm
  clear hv hq hae hk1
  go_enter Try.func10, Try.ntmps10
  go_wp2_with fail
  have KS := HV
  obtain ⟨W1, hW2⟩ : ∃ X, X = (w).alloc (.cells #[.slice A1 k.op.length c1, .slice A2 k.st.length c2, .int .i64 k.last, .slice A3 k.out.length c3] 66) := ⟨_, rfl⟩
  rw [← hW2]
  have hb3 : Below w.heap.size w W1 := by rw [hW2]; exact bel_alloc (Below.refl _ _) _
  have Ns := Lib.hid (show W1.heap[w.heap.size]? = some (.cells #[.slice A1 k.op.length c1, .slice A2 k.st.length c2, .int .i64 k.last, .slice A3 k.out.length c3] 66 (0, 0)) by rw [hW2]; exact heap_at (w) _ (w.heap.size) (by simp))
  clear hW2
  have Z := Lib.hid (KAt.below KS.out hb3)
  clear KS
  have KS := Z
  clear Z
  have BB4 := Lib.hid hb3
  clear hb3
  have Bls := Ns
  clear Ns
  refine (HS.out _ _ KS.out q HQ1.out).mono ?_
  rintro e w5 ⟨rfl, hb6⟩
  have Z := Lib.hid (heap_below Bls.out hb6)
  clear Bls
  have Bls := Z
  clear Z
  have Z := Lib.hid (KAt.below KS.out hb6)
  clear KS
  have KS := Z
  clear Z
  have BB7 := Lib.hid (bThen BB4.out hb6)
  clear hb6
  have zs := blk_lt Bls.out
  have xs0 := cellsAt Bls.out 0
  have xs1 := cellsAt Bls.out 1
  have xs2 := cellsAt Bls.out 2
  have xs3 := cellsAt Bls.out 3
  have fs := frozAt Bls.out
  simp at xs0 xs1 xs2 xs3
  cases q with
  | false =>
    go_wp2_with fail
    go_ret
    exact ⟨rfl, BB7.out⟩
  | true =>
  go_wp2_with fail
  refine (HA.out _ _ KS.out).mono ?_
  rintro e w8 ⟨⟨va, rfl, hka⟩, hb9⟩
  clear zs fs xs0 xs1 xs2 xs3
  have Z := Lib.hid (heap_below Bls.out hb9)
  clear Bls
  have Bls := Z
  clear Z
  have Z := Lib.hid (KAt.below KS.out hb9)
  clear KS
  have KS := Z
  clear Z
  have BB10 := Lib.hid (bThen BB7.out hb9)
  clear hb9
  have Ka := Lib.hid hka
  clear hka
  obtain ⟨A1a, n1a, c1a, A2a, n2a, c2a, la, A3a, n3a, c3a, rfl⟩ := k_form3 Ka.out
  by_cases hz : ae = 0
  · subst hz
    have HY := com_again HE.out
    rw [HK1.out] at HY
    obtain ⟨kr, HY⟩ := HY
    obtain ⟨a1, a2, a3⟩ := abo_again kr
    obtain ⟨k2, hk2⟩ : ∃ k2, aboK k1 = k2 := ⟨_, rfl⟩
    obtain ⟨b1, b2, b3⟩ := abo_again a3
    rw [hk2] at b1 b2 a2 a3
    have b4 : aboK k2 = k2 := by rw [b2, a2]
    have HP2 := Lib.hid a2
    have HB := Lib.hid (fun v W (hW : KAt W v k1) mm (h1 : wfL mm) (h2 : mm ≤ n) => scom_all k1 mm h1 v W hW)
    unfold ComTo at HB
    have HY2 := Lib.hid HY
    have HB2 : Hid (∀ v W, KAt W v k1 → ∀ mm, wfL mm → mm ≤ n → Calls Try.prog 38 #[v, .int .i64 mm] W fun e w' => (∃ v', e = .returned (.tuple #[v', .int .i64 0]) ∧ KAt w' v' k1) ∧ Below W.heap.size W w') := Lib.hid (fun v W hW mm h1 h2 => by have := HB.out v W hW mm h1 h2; rw [(HY2.out mm h2).1, (HY2.out mm h2).2] at this; exact this)
    have HC : Hid (∀ v W, KAt W v k1 → Calls Try.prog 39 #[v] W fun e w' => (∃ v', e = .returned (.tuple #[v', .int .i64 0]) ∧ KAt w' v' k2) ∧ Below W.heap.size W w') := Lib.hid (fun v W hW => by have := sabo_all k1 v W hW; unfold AboTo at this; rw [a1, hk2] at this; exact this)
    have HD : Hid (∀ v W, KAt W v k2 → Calls Try.prog 39 #[v] W fun e w' => (∃ v', e = .returned (.tuple #[v', .int .i64 0]) ∧ KAt w' v' k2) ∧ Below W.heap.size W w') := Lib.hid (fun v W hW => by have := sabo_all k2 v W hW; unfold AboTo at this; rw [b1, b4] at this; exact this)
    clear HB HY HY2 a1 a2 a3 b1 b2 b3 b4 hk2 kr HA HS
    go_wp2_with fail
    obtain ⟨W11, hW12⟩ : ∃ X, X = (w8).alloc (.cells #[.slice A1a n1a c1a, .slice A2a n2a c2a, .int .i64 la, .slice A3a n3a c3a] 66) := ⟨_, rfl⟩
    rw [← hW12]
    have hb13 : Below w8.heap.size w8 W11 := by rw [hW12]; exact bel_alloc (Below.refl _ _) _
    have Na := Lib.hid (show W11.heap[w8.heap.size]? = some (.cells #[.slice A1a n1a c1a, .slice A2a n2a c2a, .int .i64 la, .slice A3a n3a c3a] 66 (0, 0)) by rw [hW12]; exact heap_at (w8) _ (w8.heap.size) (by simp))
    clear hW12
    have Z := Lib.hid (heap_below Bls.out hb13)
    clear Bls
    have Bls := Z
    clear Z
    have Z := Lib.hid (KAt.below KS.out hb13)
    clear KS
    have KS := Z
    clear Z
    have Z := Lib.hid (KAt.below Ka.out hb13)
    clear Ka
    have Ka := Z
    clear Z
    have BB14 := Lib.hid (bThen BB10.out hb13)
    clear hb13
    have Bla := Na
    clear Na
    have za := blk_lt Bla.out
    have xa0 := cellsAt Bla.out 0
    have xa1 := cellsAt Bla.out 1
    have xa2 := cellsAt Bla.out 2
    have xa3 := cellsAt Bla.out 3
    have fa := frozAt Bla.out
    simp at xa0 xa1 xa2 xa3
    go_wp2_with fail
    refine (HB2.out _ _ Ka.out _ HN.out (Int.le_refl _)).mono ?_
    rintro e w15 ⟨⟨vb, rfl, hkb⟩, hb16⟩
    clear za fa xa0 xa1 xa2 xa3
    have Z := Lib.hid (heap_below Bls.out hb16)
    clear Bls
    have Bls := Z
    clear Z
    have Z := Lib.hid (heap_below Bla.out hb16)
    clear Bla
    have Bla := Z
    clear Z
    have Z := Lib.hid (KAt.below KS.out hb16)
    clear KS
    have KS := Z
    clear Z
    have Z := Lib.hid (KAt.below Ka.out hb16)
    clear Ka
    have Ka := Z
    clear Z
    have BB17 := Lib.hid (bThen BB14.out hb16)
    clear hb16
    have Kb := Lib.hid hkb
    clear hkb
    obtain ⟨A1b, n1b, c1b, A2b, n2b, c2b, lb, A3b, n3b, c3b, rfl⟩ := k_form3 Kb.out
    have za := blk_lt Bla.out
    have xa0 := cellsAt Bla.out 0
    have xa1 := cellsAt Bla.out 1
    have xa2 := cellsAt Bla.out 2
    have xa3 := cellsAt Bla.out 3
    have fa := frozAt Bla.out
    simp at xa0 xa1 xa2 xa3
    go_wp2_with fail
    obtain ⟨W18, hW19⟩ : ∃ X, X = (w15).alloc (.cells #[.slice A1b n1b c1b, .slice A2b n2b c2b, .int .i64 lb, .slice A3b n3b c3b] 66) := ⟨_, rfl⟩
    rw [← hW19]
    have hb20 : Below w15.heap.size w15 W18 := by rw [hW19]; exact bel_alloc (Below.refl _ _) _
    have Nb := Lib.hid (show W18.heap[w15.heap.size]? = some (.cells #[.slice A1b n1b c1b, .slice A2b n2b c2b, .int .i64 lb, .slice A3b n3b c3b] 66 (0, 0)) by rw [hW19]; exact heap_at (w15) _ (w15.heap.size) (by simp))
    clear hW19
    have Z := Lib.hid (heap_below Bls.out hb20)
    clear Bls
    have Bls := Z
    clear Z
    have Z := Lib.hid (heap_below Bla.out hb20)
    clear Bla
    have Bla := Z
    clear Z
    have Z := Lib.hid (KAt.below KS.out hb20)
    clear KS
    have KS := Z
    clear Z
    have Z := Lib.hid (KAt.below Ka.out hb20)
    clear Ka
    have Ka := Z
    clear Z
    have Z := Lib.hid (KAt.below Kb.out hb20)
    clear Kb
    have Kb := Z
    clear Z
    have BB21 := Lib.hid (bThen BB17.out hb20)
    clear hb20
    have Blb := Nb
    clear Nb
    clear za fa xa0 xa1 xa2 xa3
    have za := blk_lt Bla.out
    have xa0 := cellsAt Bla.out 0
    have xa1 := cellsAt Bla.out 1
    have xa2 := cellsAt Bla.out 2
    have xa3 := cellsAt Bla.out 3
    have fa := frozAt Bla.out
    simp at xa0 xa1 xa2 xa3
    go_wp2_with fail
    refine (HB2.out _ _ Ka.out _ (show wfL _ by unfold wfL; omega) (Int.min_le_right _ _)).mono ?_
    rintro e w22 ⟨⟨vc, rfl, hkc⟩, hb23⟩
    clear za fa xa0 xa1 xa2 xa3
    have Z := Lib.hid (heap_below Bls.out hb23)
    clear Bls
    have Bls := Z
    clear Z
    have Z := Lib.hid (heap_below Bla.out hb23)
    clear Bla
    have Bla := Z
    clear Z
    have Z := Lib.hid (heap_below Blb.out hb23)
    clear Blb
    have Blb := Z
    clear Z
    have Z := Lib.hid (KAt.below KS.out hb23)
    clear KS
    have KS := Z
    clear Z
    have Z := Lib.hid (KAt.below Ka.out hb23)
    clear Ka
    have Ka := Z
    clear Z
    have Z := Lib.hid (KAt.below Kb.out hb23)
    clear Kb
    have Kb := Z
    clear Z
    have BB24 := Lib.hid (bThen BB21.out hb23)
    clear hb23
    have Kc := Lib.hid hkc
    clear hkc
    obtain ⟨A1c, n1c, c1c, A2c, n2c, c2c, lc, A3c, n3c, c3c, rfl⟩ := k_form3 Kc.out
    have za := blk_lt Bla.out
    have xa0 := cellsAt Bla.out 0
    have xa1 := cellsAt Bla.out 1
    have xa2 := cellsAt Bla.out 2
    have xa3 := cellsAt Bla.out 3
    have fa := frozAt Bla.out
    simp at xa0 xa1 xa2 xa3
    go_wp2_with fail
    obtain ⟨W25, hW26⟩ : ∃ X, X = (w22).alloc (.cells #[.slice A1c n1c c1c, .slice A2c n2c c2c, .int .i64 lc, .slice A3c n3c c3c] 66) := ⟨_, rfl⟩
    rw [← hW26]
    have hb27 : Below w22.heap.size w22 W25 := by rw [hW26]; exact bel_alloc (Below.refl _ _) _
    have Nc := Lib.hid (show W25.heap[w22.heap.size]? = some (.cells #[.slice A1c n1c c1c, .slice A2c n2c c2c, .int .i64 lc, .slice A3c n3c c3c] 66 (0, 0)) by rw [hW26]; exact heap_at (w22) _ (w22.heap.size) (by simp))
    clear hW26
    have Z := Lib.hid (heap_below Bls.out hb27)
    clear Bls
    have Bls := Z
    clear Z
    have Z := Lib.hid (heap_below Bla.out hb27)
    clear Bla
    have Bla := Z
    clear Z
    have Z := Lib.hid (heap_below Blb.out hb27)
    clear Blb
    have Blb := Z
    clear Z
    have Z := Lib.hid (KAt.below KS.out hb27)
    clear KS
    have KS := Z
    clear Z
    have Z := Lib.hid (KAt.below Ka.out hb27)
    clear Ka
    have Ka := Z
    clear Z
    have Z := Lib.hid (KAt.below Kb.out hb27)
    clear Kb
    have Kb := Z
    clear Z
    have Z := Lib.hid (KAt.below Kc.out hb27)
    clear Kc
    have Kc := Z
    clear Z
    have BB28 := Lib.hid (bThen BB24.out hb27)
    clear hb27
    have Blc := Nc
    clear Nc
    clear za fa xa0 xa1 xa2 xa3
    have za := blk_lt Bla.out
    have xa0 := cellsAt Bla.out 0
    have xa1 := cellsAt Bla.out 1
    have xa2 := cellsAt Bla.out 2
    have xa3 := cellsAt Bla.out 3
    have fa := frozAt Bla.out
    simp at xa0 xa1 xa2 xa3
    go_wp2_with fail
    refine (HC.out _ _ Ka.out).mono ?_
    rintro e w29 ⟨⟨vx, rfl, hkx⟩, hb30⟩
    clear za fa xa0 xa1 xa2 xa3
    have Z := Lib.hid (heap_below Bls.out hb30)
    clear Bls
    have Bls := Z
    clear Z
    have Z := Lib.hid (heap_below Bla.out hb30)
    clear Bla
    have Bla := Z
    clear Z
    have Z := Lib.hid (heap_below Blb.out hb30)
    clear Blb
    have Blb := Z
    clear Z
    have Z := Lib.hid (heap_below Blc.out hb30)
    clear Blc
    have Blc := Z
    clear Z
    have Z := Lib.hid (KAt.below KS.out hb30)
    clear KS
    have KS := Z
    clear Z
    have Z := Lib.hid (KAt.below Ka.out hb30)
    clear Ka
    have Ka := Z
    clear Z
    have Z := Lib.hid (KAt.below Kb.out hb30)
    clear Kb
    have Kb := Z
    clear Z
    have Z := Lib.hid (KAt.below Kc.out hb30)
    clear Kc
    have Kc := Z
    clear Z
    have BB31 := Lib.hid (bThen BB28.out hb30)
    clear hb30
    have Kx := Lib.hid hkx
    clear hkx
    obtain ⟨A1x, n1x, c1x, A2x, n2x, c2x, lx, A3x, n3x, c3x, rfl⟩ := k_form3 Kx.out
    go_wp2_with fail
    obtain ⟨W32, hW33⟩ : ∃ X, X = (w29).alloc (.cells #[.slice A1x n1x c1x, .slice A2x n2x c2x, .int .i64 lx, .slice A3x n3x c3x] 66) := ⟨_, rfl⟩
    rw [← hW33]
    have hb34 : Below w29.heap.size w29 W32 := by rw [hW33]; exact bel_alloc (Below.refl _ _) _
    have Nx := Lib.hid (show W32.heap[w29.heap.size]? = some (.cells #[.slice A1x n1x c1x, .slice A2x n2x c2x, .int .i64 lx, .slice A3x n3x c3x] 66 (0, 0)) by rw [hW33]; exact heap_at (w29) _ (w29.heap.size) (by simp))
    clear hW33
    have Z := Lib.hid (heap_below Bls.out hb34)
    clear Bls
    have Bls := Z
    clear Z
    have Z := Lib.hid (heap_below Bla.out hb34)
    clear Bla
    have Bla := Z
    clear Z
    have Z := Lib.hid (heap_below Blb.out hb34)
    clear Blb
    have Blb := Z
    clear Z
    have Z := Lib.hid (heap_below Blc.out hb34)
    clear Blc
    have Blc := Z
    clear Z
    have Z := Lib.hid (KAt.below KS.out hb34)
    clear KS
    have KS := Z
    clear Z
    have Z := Lib.hid (KAt.below Ka.out hb34)
    clear Ka
    have Ka := Z
    clear Z
    have Z := Lib.hid (KAt.below Kb.out hb34)
    clear Kb
    have Kb := Z
    clear Z
    have Z := Lib.hid (KAt.below Kc.out hb34)
    clear Kc
    have Kc := Z
    clear Z
    have Z := Lib.hid (KAt.below Kx.out hb34)
    clear Kx
    have Kx := Z
    clear Z
    have BB35 := Lib.hid (bThen BB31.out hb34)
    clear hb34
    have Blx := Nx
    clear Nx
    have zx := blk_lt Blx.out
    have xx0 := cellsAt Blx.out 0
    have xx1 := cellsAt Blx.out 1
    have xx2 := cellsAt Blx.out 2
    have xx3 := cellsAt Blx.out 3
    have fx := frozAt Blx.out
    simp at xx0 xx1 xx2 xx3
    go_wp2_with fail
    refine (HD.out _ _ Kx.out).mono ?_
    rintro e w36 ⟨⟨vy, rfl, hky⟩, hb37⟩
    clear zx fx xx0 xx1 xx2 xx3
    have Z := Lib.hid (heap_below Bls.out hb37)
    clear Bls
    have Bls := Z
    clear Z
    have Z := Lib.hid (heap_below Bla.out hb37)
    clear Bla
    have Bla := Z
    clear Z
    have Z := Lib.hid (heap_below Blb.out hb37)
    clear Blb
    have Blb := Z
    clear Z
    have Z := Lib.hid (heap_below Blc.out hb37)
    clear Blc
    have Blc := Z
    clear Z
    have Z := Lib.hid (heap_below Blx.out hb37)
    clear Blx
    have Blx := Z
    clear Z
    have Z := Lib.hid (KAt.below KS.out hb37)
    clear KS
    have KS := Z
    clear Z
    have Z := Lib.hid (KAt.below Ka.out hb37)
    clear Ka
    have Ka := Z
    clear Z
    have Z := Lib.hid (KAt.below Kb.out hb37)
    clear Kb
    have Kb := Z
    clear Z
    have Z := Lib.hid (KAt.below Kc.out hb37)
    clear Kc
    have Kc := Z
    clear Z
    have Z := Lib.hid (KAt.below Kx.out hb37)
    clear Kx
    have Kx := Z
    clear Z
    have BB38 := Lib.hid (bThen BB35.out hb37)
    clear hb37
    have Ky := Lib.hid hky
    clear hky
    obtain ⟨A1y, n1y, c1y, A2y, n2y, c2y, ly, A3y, n3y, c3y, rfl⟩ := k_form3 Ky.out
    go_wp2_with fail
    obtain ⟨W39, hW40⟩ : ∃ X, X = (w36).alloc (.cells #[.slice A1y n1y c1y, .slice A2y n2y c2y, .int .i64 ly, .slice A3y n3y c3y] 66) := ⟨_, rfl⟩
    rw [← hW40]
    have hb41 : Below w36.heap.size w36 W39 := by rw [hW40]; exact bel_alloc (Below.refl _ _) _
    have Ny := Lib.hid (show W39.heap[w36.heap.size]? = some (.cells #[.slice A1y n1y c1y, .slice A2y n2y c2y, .int .i64 ly, .slice A3y n3y c3y] 66 (0, 0)) by rw [hW40]; exact heap_at (w36) _ (w36.heap.size) (by simp))
    clear hW40
    have Z := Lib.hid (heap_below Bls.out hb41)
    clear Bls
    have Bls := Z
    clear Z
    have Z := Lib.hid (heap_below Bla.out hb41)
    clear Bla
    have Bla := Z
    clear Z
    have Z := Lib.hid (heap_below Blb.out hb41)
    clear Blb
    have Blb := Z
    clear Z
    have Z := Lib.hid (heap_below Blc.out hb41)
    clear Blc
    have Blc := Z
    clear Z
    have Z := Lib.hid (heap_below Blx.out hb41)
    clear Blx
    have Blx := Z
    clear Z
    have Z := Lib.hid (KAt.below KS.out hb41)
    clear KS
    have KS := Z
    clear Z
    have Z := Lib.hid (KAt.below Ka.out hb41)
    clear Ka
    have Ka := Z
    clear Z
    have Z := Lib.hid (KAt.below Kb.out hb41)
    clear Kb
    have Kb := Z
    clear Z
    have Z := Lib.hid (KAt.below Kc.out hb41)
    clear Kc
    have Kc := Z
    clear Z
    have Z := Lib.hid (KAt.below Kx.out hb41)
    clear Kx
    have Kx := Z
    clear Z
    have Z := Lib.hid (KAt.below Ky.out hb41)
    clear Ky
    have Ky := Z
    clear Z
    have BB42 := Lib.hid (bThen BB38.out hb41)
    clear hb41
    have Bly := Ny
    clear Ny
    go_wp2_with fail
    refine (alive_any _).mono ?_
    rintro e w43 ⟨rfl, hb44⟩
    have Z := Lib.hid (heap_below Bls.out hb44)
    clear Bls
    have Bls := Z
    clear Z
    have Z := Lib.hid (heap_below Bla.out hb44)
    clear Bla
    have Bla := Z
    clear Z
    have Z := Lib.hid (heap_below Blb.out hb44)
    clear Blb
    have Blb := Z
    clear Z
    have Z := Lib.hid (heap_below Blc.out hb44)
    clear Blc
    have Blc := Z
    clear Z
    have Z := Lib.hid (heap_below Blx.out hb44)
    clear Blx
    have Blx := Z
    clear Z
    have Z := Lib.hid (heap_below Bly.out hb44)
    clear Bly
    have Bly := Z
    clear Z
    have Z := Lib.hid (KAt.below KS.out hb44)
    clear KS
    have KS := Z
    clear Z
    have Z := Lib.hid (KAt.below Ka.out hb44)
    clear Ka
    have Ka := Z
    clear Z
    have Z := Lib.hid (KAt.below Kb.out hb44)
    clear Kb
    have Kb := Z
    clear Z
    have Z := Lib.hid (KAt.below Kc.out hb44)
    clear Kc
    have Kc := Z
    clear Z
    have Z := Lib.hid (KAt.below Kx.out hb44)
    clear Kx
    have Kx := Z
    clear Z
    have Z := Lib.hid (KAt.below Ky.out hb44)
    clear Ky
    have Ky := Z
    clear Z
    have BB45 := Lib.hid (bThen BB42.out hb44)
    clear hb44
    have za := blk_lt Bla.out
    have xa0 := cellsAt Bla.out 0
    have xa1 := cellsAt Bla.out 1
    have xa2 := cellsAt Bla.out 2
    have xa3 := cellsAt Bla.out 3
    have fa := frozAt Bla.out
    simp at xa0 xa1 xa2 xa3
    have zb := blk_lt Blb.out
    have xb0 := cellsAt Blb.out 0
    have xb1 := cellsAt Blb.out 1
    have xb2 := cellsAt Blb.out 2
    have xb3 := cellsAt Blb.out 3
    have fb := frozAt Blb.out
    simp at xb0 xb1 xb2 xb3
    go_wp2_with fail
    refine (like_all _ _ (likeK_self k1) _ _ _ Ka.out Kb.out).mono ?_
    rintro e w46 ⟨rfl, hb47⟩
    clear za fa xa0 xa1 xa2 xa3 zb fb xb0 xb1 xb2 xb3
    have Z := Lib.hid (heap_below Bls.out hb47)
    clear Bls
    have Bls := Z
    clear Z
    have Z := Lib.hid (heap_below Bla.out hb47)
    clear Bla
    have Bla := Z
    clear Z
    have Z := Lib.hid (heap_below Blb.out hb47)
    clear Blb
    have Blb := Z
    clear Z
    have Z := Lib.hid (heap_below Blc.out hb47)
    clear Blc
    have Blc := Z
    clear Z
    have Z := Lib.hid (heap_below Blx.out hb47)
    clear Blx
    have Blx := Z
    clear Z
    have Z := Lib.hid (heap_below Bly.out hb47)
    clear Bly
    have Bly := Z
    clear Z
    have Z := Lib.hid (KAt.below KS.out hb47)
    clear KS
    have KS := Z
    clear Z
    have Z := Lib.hid (KAt.below Ka.out hb47)
    clear Ka
    have Ka := Z
    clear Z
    have Z := Lib.hid (KAt.below Kb.out hb47)
    clear Kb
    have Kb := Z
    clear Z
    have Z := Lib.hid (KAt.below Kc.out hb47)
    clear Kc
    have Kc := Z
    clear Z
    have Z := Lib.hid (KAt.below Kx.out hb47)
    clear Kx
    have Kx := Z
    clear Z
    have Z := Lib.hid (KAt.below Ky.out hb47)
    clear Ky
    have Ky := Z
    clear Z
    have BB48 := Lib.hid (bThen BB45.out hb47)
    clear hb47
    have za := blk_lt Bla.out
    have xa0 := cellsAt Bla.out 0
    have xa1 := cellsAt Bla.out 1
    have xa2 := cellsAt Bla.out 2
    have xa3 := cellsAt Bla.out 3
    have fa := frozAt Bla.out
    simp at xa0 xa1 xa2 xa3
    have zc := blk_lt Blc.out
    have xc0 := cellsAt Blc.out 0
    have xc1 := cellsAt Blc.out 1
    have xc2 := cellsAt Blc.out 2
    have xc3 := cellsAt Blc.out 3
    have fc := frozAt Blc.out
    simp at xc0 xc1 xc2 xc3
    go_wp2_with fail
    refine (like_all _ _ (likeK_self k1) _ _ _ Ka.out Kc.out).mono ?_
    rintro e w49 ⟨rfl, hb50⟩
    clear za fa xa0 xa1 xa2 xa3 zc fc xc0 xc1 xc2 xc3
    have Z := Lib.hid (heap_below Bls.out hb50)
    clear Bls
    have Bls := Z
    clear Z
    have Z := Lib.hid (heap_below Bla.out hb50)
    clear Bla
    have Bla := Z
    clear Z
    have Z := Lib.hid (heap_below Blb.out hb50)
    clear Blb
    have Blb := Z
    clear Z
    have Z := Lib.hid (heap_below Blc.out hb50)
    clear Blc
    have Blc := Z
    clear Z
    have Z := Lib.hid (heap_below Blx.out hb50)
    clear Blx
    have Blx := Z
    clear Z
    have Z := Lib.hid (heap_below Bly.out hb50)
    clear Bly
    have Bly := Z
    clear Z
    have Z := Lib.hid (KAt.below KS.out hb50)
    clear KS
    have KS := Z
    clear Z
    have Z := Lib.hid (KAt.below Ka.out hb50)
    clear Ka
    have Ka := Z
    clear Z
    have Z := Lib.hid (KAt.below Kb.out hb50)
    clear Kb
    have Kb := Z
    clear Z
    have Z := Lib.hid (KAt.below Kc.out hb50)
    clear Kc
    have Kc := Z
    clear Z
    have Z := Lib.hid (KAt.below Kx.out hb50)
    clear Kx
    have Kx := Z
    clear Z
    have Z := Lib.hid (KAt.below Ky.out hb50)
    clear Ky
    have Ky := Z
    clear Z
    have BB51 := Lib.hid (bThen BB48.out hb50)
    clear hb50
    have zx := blk_lt Blx.out
    have xx0 := cellsAt Blx.out 0
    have xx1 := cellsAt Blx.out 1
    have xx2 := cellsAt Blx.out 2
    have xx3 := cellsAt Blx.out 3
    have fx := frozAt Blx.out
    simp at xx0 xx1 xx2 xx3
    have zy := blk_lt Bly.out
    have xy0 := cellsAt Bly.out 0
    have xy1 := cellsAt Bly.out 1
    have xy2 := cellsAt Bly.out 2
    have xy3 := cellsAt Bly.out 3
    have fy := frozAt Bly.out
    simp at xy0 xy1 xy2 xy3
    go_wp2_with fail
    refine (like_all _ _ (likeK_self k2) _ _ _ Kx.out Ky.out).mono ?_
    rintro e w52 ⟨rfl, hb53⟩
    clear zx fx xx0 xx1 xx2 xx3 zy fy xy0 xy1 xy2 xy3
    have Z := Lib.hid (heap_below Bls.out hb53)
    clear Bls
    have Bls := Z
    clear Z
    have Z := Lib.hid (heap_below Bla.out hb53)
    clear Bla
    have Bla := Z
    clear Z
    have Z := Lib.hid (heap_below Blb.out hb53)
    clear Blb
    have Blb := Z
    clear Z
    have Z := Lib.hid (heap_below Blc.out hb53)
    clear Blc
    have Blc := Z
    clear Z
    have Z := Lib.hid (heap_below Blx.out hb53)
    clear Blx
    have Blx := Z
    clear Z
    have Z := Lib.hid (heap_below Bly.out hb53)
    clear Bly
    have Bly := Z
    clear Z
    have Z := Lib.hid (KAt.below KS.out hb53)
    clear KS
    have KS := Z
    clear Z
    have Z := Lib.hid (KAt.below Ka.out hb53)
    clear Ka
    have Ka := Z
    clear Z
    have Z := Lib.hid (KAt.below Kb.out hb53)
    clear Kb
    have Kb := Z
    clear Z
    have Z := Lib.hid (KAt.below Kc.out hb53)
    clear Kc
    have Kc := Z
    clear Z
    have Z := Lib.hid (KAt.below Kx.out hb53)
    clear Kx
    have Kx := Z
    clear Z
    have Z := Lib.hid (KAt.below Ky.out hb53)
    clear Ky
    have Ky := Z
    clear Z
    have BB54 := Lib.hid (bThen BB51.out hb53)
    clear hb53
    have zx := blk_lt Blx.out
    have xx0 := cellsAt Blx.out 0
    have xx1 := cellsAt Blx.out 1
    have xx2 := cellsAt Blx.out 2
    have xx3 := cellsAt Blx.out 3
    have fx := frozAt Blx.out
    simp at xx0 xx1 xx2 xx3
    have za := blk_lt Bla.out
    have xa0 := cellsAt Bla.out 0
    have xa1 := cellsAt Bla.out 1
    have xa2 := cellsAt Bla.out 2
    have xa3 := cellsAt Bla.out 3
    have fa := frozAt Bla.out
    simp at xa0 xa1 xa2 xa3
    go_wp2_with fail
    have RX := (k_parts Kx.out).2.2
    have RA := (k_parts Ka.out).2.2
    rw [HP2.out] at RX
    refine (likeR_any _ _ _ _ RX RA).mono ?_
    rintro e wd ⟨rfl, md, rfl⟩
    clear zx fx xx0 xx1 xx2 xx3 za fa xa0 xa1 xa2 xa3
    have hbd : Below w52.heap.size w52 (w52.drewN md) := bDrewN (Below.refl _ _)
    obtain ⟨⟨h1, h2, -, -⟩, -⟩ := k_parts Kx.out
    rw [HP2.out] at h1 h2
    simp at h1 h2
    subst h1 h2
    have BX := heap_below Blx.out hbd
    have zx := blk_lt BX
    have xx0 := cellsAt BX 0
    have xx1 := cellsAt BX 1
    simp at xx0 xx1
    go_wp2_with fail
    go_ret
    exact ⟨rfl, bThen BB54.out hbd⟩
  · obtain rfl : k1 = zK := by rw [← HK1.out]; exact comE_not (by rw [HE.out]; exact hz)
    have hz2 : (ae != 0) = true := by simpa using hz
    go_wp2_with fail
    obtain ⟨W11, hW12⟩ : ∃ X, X = (w8).alloc (.cells #[.slice A1a n1a c1a, .slice A2a n2a c2a, .int .i64 la, .slice A3a n3a c3a] 66) := ⟨_, rfl⟩
    rw [← hW12]
    have hb13 : Below w8.heap.size w8 W11 := by rw [hW12]; exact bel_alloc (Below.refl _ _) _
    have Na := Lib.hid (show W11.heap[w8.heap.size]? = some (.cells #[.slice A1a n1a c1a, .slice A2a n2a c2a, .int .i64 la, .slice A3a n3a c3a] 66 (0, 0)) by rw [hW12]; exact heap_at (w8) _ (w8.heap.size) (by simp))
    clear hW12
    have Z := Lib.hid (heap_below Bls.out hb13)
    clear Bls
    have Bls := Z
    clear Z
    have Z := Lib.hid (KAt.below KS.out hb13)
    clear KS
    have KS := Z
    clear Z
    have Z := Lib.hid (KAt.below Ka.out hb13)
    clear Ka
    have Ka := Z
    clear Z
    have BB14 := Lib.hid (bThen BB10.out hb13)
    clear hb13
    have Bla := Na
    clear Na
    refine (alive_any _).mono ?_
    rintro e w15 ⟨rfl, hb16⟩
    have Z := Lib.hid (heap_below Bls.out hb16)
    clear Bls
    have Bls := Z
    clear Z
    have Z := Lib.hid (heap_below Bla.out hb16)
    clear Bla
    have Bla := Z
    clear Z
    have Z := Lib.hid (KAt.below KS.out hb16)
    clear KS
    have KS := Z
    clear Z
    have Z := Lib.hid (KAt.below Ka.out hb16)
    clear Ka
    have Ka := Z
    clear Z
    have BB17 := Lib.hid (bThen BB14.out hb16)
    clear hb16
    have za := blk_lt Bla.out
    have xa0 := cellsAt Bla.out 0
    have xa1 := cellsAt Bla.out 1
    have xa2 := cellsAt Bla.out 2
    have xa3 := cellsAt Bla.out 3
    have fa := frozAt Bla.out
    simp at xa0 xa1 xa2 xa3
    go_wp2_with fail
    refine (like_all _ _ (likeK_self zK) _ zS _ Ka.out (zK_at _)).mono ?_
    rintro e w18 ⟨rfl, hb19⟩
    clear za fa xa0 xa1 xa2 xa3
    have Z := Lib.hid (heap_below Bls.out hb19)
    clear Bls
    have Bls := Z
    clear Z
    have Z := Lib.hid (heap_below Bla.out hb19)
    clear Bla
    have Bla := Z
    clear Z
    have Z := Lib.hid (KAt.below KS.out hb19)
    clear KS
    have KS := Z
    clear Z
    have Z := Lib.hid (KAt.below Ka.out hb19)
    clear Ka
    have Ka := Z
    clear Z
    have BB20 := Lib.hid (bThen BB17.out hb19)
    clear hb19
    go_wp2_with fail
    go_ret
    exact ⟨rfl, BB20.out⟩
end Go.Proofs.Ytenpgkkefielfaa
