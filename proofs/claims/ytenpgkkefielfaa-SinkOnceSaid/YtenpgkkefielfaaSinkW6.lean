/-
  WALKS of layer 19: two rows of one list are alike.
-/
import Derived.Test.YtenpgkkefielfaaSinkW5
set_option linter.unusedVariables false
set_option linter.unusedSimpArgs false
namespace Go.Proofs.Ytenpgkkefielfaa
open Go.RowKit

def sameR (a b : Res) : Bool := (a.lo == b.lo && a.hi == b.hi) && (a.k.toList == b.k.toList && (a.n == b.n && a.v == b.v))
theorem sameR_self (a : Res) : sameR a a = true := by unfold sameR; simp
theorem eqRes (W : World) (lo hi : Int) (k : ByteArray) (n v : Int) : (Op.equalIn 10000 41 (.agg #[.int .i64 lo, .int .i64 hi, .string k, .int .i64 n, .int .i64 v]) (.agg #[.int .i64 lo, .int .i64 hi, .string k, .int .i64 n, .int .i64 v])).run Try.prog W = .ok true W := by
  have h := eq55 W 9997 k k lo hi n v lo hi n v
  simpa using h
def LkRel (l : List Res) (w0 : World) (i : Value) (wr : World) : Prop := ∃ k : Nat, k ≤ l.length ∧ i = .int .i64 k ∧ ∃ m, wr = w0.drewN m
set_option maxRecDepth 100000 in
set_option maxHeartbeats 1000000 in
theorem likeR_any (li : List Res) (va vb : Value) (w : World) (ha : RowR w va li) (hb : RowR w vb li) :
    Calls Try.prog 40 #[va, vb] w fun e w' => e = .returned (.bool true) ∧ ∃ m, w' = w.drewN m := by
  obtain ⟨ha, -, hl⟩ := ha
  obtain ⟨hb, -, -⟩ := hb
  obtain ⟨A, c, rfl, hc, hA⟩ := ha
  obtain ⟨B, c', rfl, hc', hB⟩ := hb
  have HA := Lib.hid hA
  have HBB := Lib.hid hB
  clear hA hB
  unfold maxLen at hl
  obtain ⟨n, hn⟩ : ∃ n, li.length = n := ⟨_, rfl⟩
  rw [hn] at hl hc hc' ⊢
  have Hn := Lib.hid hn
  clear hn
  go_enter Try.func40, Try.ntmps40
  go_wp2_with fail
  go_loopw [13] (fun i wr => LkRel li w i wr) (fun i _ => n - (intOf i).toNat)
  case atStart => exact ⟨0, Nat.zero_le _, rfl, 0, rfl⟩
  case round =>
    obtain ⟨k, hk, rfl, m, hm⟩ := hrel
    rw [Hn.out] at hk
    have HB := Lib.hid (show Below w.heap.size w wr by rw [hm]; exact bDrewN (Below.refl _ _))
    have HM := Lib.hid hm
    clear hm
    by_cases hlt : k < n
    · obtain ⟨x, hi⟩ : ∃ x, li[k]? = some x := ⟨_, List.getElem?_eq_getElem (by rw [Hn.out]; exact hlt)⟩
      obtain ⟨b, o, rfl, hb, hX⟩ := HA.out (by rw [Hn.out]; omega)
      obtain ⟨b2, o2, rfl, hb2, hY⟩ := HBB.out (by rw [Hn.out]; omega)
      have c0 := (HB.out.cell (p := ⟨b, o + k * 5 + 0, none⟩) hb).trans (hX k x 0 _ hi rfl)
      have c1 := (HB.out.cell (p := ⟨b, o + k * 5 + 1, none⟩) hb).trans (hX k x 1 _ hi rfl)
      have c2 := (HB.out.cell (p := ⟨b, o + k * 5 + 2, none⟩) hb).trans (hX k x 2 _ hi rfl)
      have c3 := (HB.out.cell (p := ⟨b, o + k * 5 + 3, none⟩) hb).trans (hX k x 3 _ hi rfl)
      have c4 := (HB.out.cell (p := ⟨b, o + k * 5 + 4, none⟩) hb).trans (hX k x 4 _ hi rfl)
      have d0 := (HB.out.cell (p := ⟨b2, o2 + k * 5 + 0, none⟩) hb2).trans (hY k x 0 _ hi rfl)
      have d1 := (HB.out.cell (p := ⟨b2, o2 + k * 5 + 1, none⟩) hb2).trans (hY k x 1 _ hi rfl)
      have d2 := (HB.out.cell (p := ⟨b2, o2 + k * 5 + 2, none⟩) hb2).trans (hY k x 2 _ hi rfl)
      have d3 := (HB.out.cell (p := ⟨b2, o2 + k * 5 + 3, none⟩) hb2).trans (hY k x 3 _ hi rfl)
      have d4 := (HB.out.cell (p := ⟨b2, o2 + k * 5 + 4, none⟩) hb2).trans (hY k x 4 _ hi rfl)
      clear hX hY hi
      obtain ⟨lo, hi5, ks, rn, rv⟩ := x
      simp only [Nat.add_zero] at c0 c1 c2 c3 c4 d0 d1 d2 d3 d4
      have EQ := fun W => eqRes W lo hi5 ks rn rv
      go_wp2_with fail
      go_quiet (fail)
      go_wp2_with fail
      go_roundw
      case rel => exact ⟨k + 1, by rw [Hn.out]; omega, by go_num, _, by rw [HM.out, World.drewN_drewN]⟩
      case measure => simp [intOf]; omega
    · have hkn : k = n := by omega
      subst hkn
      go_wp2_with fail
      go_ret
      exact ⟨rfl, m, HM.out⟩
theorem heap_at2 (W : World) (o : Obj) (g : Nat) (h : W.heap.size = g) : (W.alloc o).heap[g]? = some o := by subst h; exact heap_alloc_new _ _
theorem RowR.drewN {W : World} {v : Value} {l : List Res} (h : RowR W v l) (n : Nat) : RowR (W.drewN n) v l := ⟨h.1.drewN n, h.2⟩
/-- Two rows of stages that read alike. -/
def likeS (st st2 : List Stg) : Prop := st2.length = st.length ∧ ∀ (k : Nat) (x y : Stg), st[k]? = some x → st2[k]? = some y → y.n = x.n ∧ y.l = x.l
def LsRel (n : Nat) (w0 : World) (i : Value) (wr : World) : Prop := ∃ k : Nat, k ≤ n ∧ i = .int .i64 k ∧ Below w0.heap.size w0 wr
set_option maxRecDepth 100000 in
set_option maxHeartbeats 4000000 in
theorem like_any (op : List Res) (st st2 : List Stg) (last : Int) (out : List Res) (va vb : Value) (w : World) (ha : SinkAt w va op st last out) (hb : SinkAt w vb op st2 last out) (hs : likeS st st2) :
    Calls Try.prog 37 #[va, vb] w fun e w' => e = .returned (.bool true) ∧ Below w.heap.size w w' := by
  obtain ⟨hlen, hst⟩ := hs
  obtain ⟨vo, vs, vu, rfl, h1, ⟨h2, h3, h4⟩, ⟨h5, h5'⟩, h6⟩ := ha
  obtain ⟨vo', vs', vu', rfl, k1, ⟨k2, k3, k4⟩, -, k6⟩ := hb
  have HST := Lib.hid hst
  have R1 := Lib.hid h1
  have R3 := Lib.hid h6
  have S1 := Lib.hid k1
  have S3 := Lib.hid k6
  obtain ⟨⟨A1, c1, rfl, -, -⟩, -, m1⟩ := h1
  obtain ⟨⟨A3, c3, rfl, -, -⟩, -, m3⟩ := h6
  obtain ⟨A2, c2, rfl, hc2, hA⟩ := h2
  obtain ⟨⟨B1, d1, rfl, -, -⟩, -, -⟩ := k1
  obtain ⟨⟨B3, d3, rfl, -, -⟩, -, -⟩ := k6
  obtain ⟨B2, d2, rfl, hd2, hB⟩ := k2
  have HA := Lib.hid hA
  have HBB := Lib.hid hB
  have H3 := Lib.hid h3
  have K3 := Lib.hid k3
  clear hA hB h3 k3 k4 hst
  unfold maxLen at m1 m3 h4
  rw [hlen] at hd2 ⊢
  have HL := Lib.hid hlen
  clear hlen
  obtain ⟨n, hn⟩ : ∃ n, st.length = n := ⟨_, rfl⟩
  rw [hn] at h4 hc2 hd2 ⊢
  have Hn := Lib.hid hn
  clear hn
  go_enter Try.func37, Try.ntmps37
  go_wp2_with fail
  obtain ⟨W1, hW1⟩ : ∃ W1, W1 = (w.alloc (.cells #[.slice A1 op.length c1, .slice A2 n c2, .int .i64 last, .slice A3 out.length c3] 66)).alloc (.cells #[.slice B1 op.length d1, .slice B2 n d2, .int .i64 last, .slice B3 out.length d3] 66) := ⟨_, rfl⟩
  rw [← hW1]
  have BW := Lib.hid (show Below w.heap.size w W1 by rw [hW1]; exact bel_alloc (bel_alloc (Below.refl _ _) _) _)
  have K0 := Lib.hid (show W1.heap[w.heap.size]? = some (.cells #[.slice A1 op.length c1, .slice A2 n c2, .int .i64 last, .slice A3 out.length c3] 66 (0, 0)) by rw [hW1]; exact newA (bel_alloc (Below.refl _ _) _))
  have K1 := Lib.hid (show W1.heap[w.heap.size + 1]? = some (.cells #[.slice B1 op.length d1, .slice B2 n d2, .int .i64 last, .slice B3 out.length d3] 66 (0, 0)) by rw [hW1]; exact heap_at2 _ _ _ (by simp))
  clear hW1
  have hz1 := blk_lt K1.out
  have hz0 : w.heap.size < W1.heap.size := by omega
  have p1 := cellsAt K0.out 1
  have p3 := cellsAt K0.out 3
  have q1 := cellsAt K1.out 1
  have q3 := cellsAt K1.out 3
  simp at p1 p3 q1 q3
  refine (likeR_any op _ _ W1 (R1.out.below BW.out) (S1.out.below BW.out)).mono ?_
  rintro e w2 ⟨rfl, m2, hm2⟩
  have hb2 : Below W1.heap.size W1 w2 := by rw [hm2]; exact bDrewN (Below.refl _ _)
  clear hm2
  have e1 := (hb2.cell (p := ⟨w.heap.size, 1, none⟩) hz0).trans p1
  have e3 := (hb2.cell (p := ⟨w.heap.size, 3, none⟩) hz0).trans p3
  have f1 := (hb2.cell (p := ⟨w.heap.size + 1, 1, none⟩) hz1).trans q1
  have f3 := (hb2.cell (p := ⟨w.heap.size + 1, 3, none⟩) hz1).trans q3
  have hz2 := hb2.size
  have HB2 := Lib.hid hb2
  have B2 := Lib.hid (bThen BW.out hb2)
  clear hb2
  have hz20 : w.heap.size < w2.heap.size := by omega
  have hz21 : w.heap.size + 1 < w2.heap.size := by omega
  go_wp2_with fail
  refine (likeR_any out _ _ w2 (R3.out.below B2.out) (S3.out.below B2.out)).mono ?_
  rintro e w3 ⟨rfl, m3', hm3⟩
  have hb3 : Below w2.heap.size w2 w3 := by rw [hm3]; exact bDrewN (Below.refl _ _)
  clear hm3
  have g1 := (hb3.cell (p := ⟨w.heap.size, 1, none⟩) hz20).trans e1
  have g2 := (hb3.cell (p := ⟨w.heap.size + 1, 1, none⟩) hz21).trans f1
  have hz3 := hb3.size
  have B3' := Lib.hid (bThen B2.out hb3)
  clear hb3 e1 e3 f1 f3 p1 p3 q1 q3
  have hz30 : w.heap.size < w3.heap.size := by omega
  have hz31 : w.heap.size + 1 < w3.heap.size := by omega
  go_wp2_with fail
  go_loopw [39] (fun i wr => LsRel n w3 i wr) (fun i _ => n - (intOf i).toNat)
  case atStart => exact ⟨0, Nat.zero_le _, rfl, Below.refl _ _⟩
  case round =>
    obtain ⟨k, hk, rfl, hbel⟩ := hrel
    have HB := Lib.hid hbel
    have BX := Lib.hid (bThen B3'.out hbel)
    have r1 := (hbel.cell (p := ⟨w.heap.size, 1, none⟩) hz30).trans g1
    have r2 := (hbel.cell (p := ⟨w.heap.size + 1, 1, none⟩) hz31).trans g2
    have hz4 := hbel.size
    clear hbel
    by_cases hlt : k < n
    · obtain ⟨x, hi⟩ : ∃ x, st[k]? = some x := ⟨_, List.getElem?_eq_getElem (by rw [Hn.out]; exact hlt)⟩
      obtain ⟨y, hj⟩ : ∃ y, st2[k]? = some y := ⟨_, List.getElem?_eq_getElem (by rw [HL.out, Hn.out]; exact hlt)⟩
      obtain ⟨b, o, rfl, hb, hX⟩ := HA.out (by rw [Hn.out]; omega)
      obtain ⟨b2, o2, rfl, hb2, hY⟩ := HBB.out (by rw [HL.out, Hn.out]; omega)
      have c0 := (BX.out.cell (p := ⟨b, o + k * 2 + 0, none⟩) hb).trans (hX k x 0 _ hi rfl)
      have c1 := (BX.out.cell (p := ⟨b, o + k * 2 + 1, none⟩) hb).trans (hX k x 1 _ hi rfl)
      have d0 := (BX.out.cell (p := ⟨b2, o2 + k * 2 + 0, none⟩) hb2).trans (hY k y 0 _ hj rfl)
      have d1 := (BX.out.cell (p := ⟨b2, o2 + k * 2 + 1, none⟩) hb2).trans (hY k y 1 _ hj rfl)
      have hxy := HST.out k x y hi hj
      have hax := H3.out x (List.mem_of_getElem? hi)
      have hay := K3.out y (List.mem_of_getElem? hj)
      clear hX hY hi hj
      obtain ⟨xn, row, xl⟩ := x
      obtain ⟨yn, row2, yl⟩ := y
      obtain ⟨hyn, hyl⟩ := hxy
      have hyn' : yn = xn := hyn
      have hyl' : yl = xl := hyl
      subst hyn' hyl'
      obtain ⟨hxn, hrow⟩ := hax
      obtain ⟨-, hrow2⟩ := hay
      have RX := Lib.hid hrow
      have RY := Lib.hid hrow2
      obtain ⟨⟨AX, cx, hrw, hcx, -⟩, -, mx⟩ := hrow
      obtain ⟨⟨AY, cy, hrw2, hcy, -⟩, -, -⟩ := hrow2
      have hrow' : row = .slice AX yl.length cx := hrw
      have hrow2' : row2 = .slice AY yl.length cy := hrw2
      subst hrow' hrow2'
      simp only [Nat.add_zero] at c0 c1 d0 d1
      have HP := Lib.hid (fun m => likeR_any yl _ _ (wr.drewN m) ((RX.out.below BX.out).drewN m) ((RY.out.below BX.out).drewN m))
      clear hyn hyl hrw hrw2
      go_wp2_with fail
      go_quiet ((go_at_call 40; exact Calls.quiet_of (HP.out _)))
      go_wp2_with fail
      go_roundw
      case rel => exact ⟨k + 1, by omega, by go_num, bDrewN HB.out⟩
      case measure => simp [intOf]; omega
    · have hkn : k = n := by omega
      subst hkn
      go_wp2_with fail
      go_ret
      exact ⟨rfl, BX.out⟩
end Go.Proofs.Ytenpgkkefielfaa
