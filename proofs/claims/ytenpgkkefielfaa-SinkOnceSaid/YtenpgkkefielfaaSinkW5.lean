/-
  WALKS of layer 19: the reference's Room and Right.
-/
import Derived.Test.YtenpgkkefielfaaSinkW4
set_option linter.unusedVariables false
set_option linter.unusedSimpArgs false
namespace Go.Proofs.Ytenpgkkefielfaa
open Go.RowKit

def headR (op : List Res) (st : List Stg) (last : Int) (out : List Res) : Bool :=
  decide (0 ≤ last) && (decide (last ≤ 1073741824) && (decide (st.length ≤ 8) && (decide ((op.length : Int) + out.length ≤ 20000) && (allB op && allB out))))
def stR (last : Int) (st : List Stg) (n : Int) (k : Nat) : Bool := stAt last st k && decide (sumTo st n (k + 1) ≤ 20000)
theorem right_eq (op : List Res) (st : List Stg) (last : Int) (out : List Res) : rightS op st last out = (headR op st last out && (List.range st.length).all (stR last st ((op.length : Int) + out.length))) := by
  rw [Bool.eq_iff_iff]
  unfold rightS headS headR stR
  simp only [Bool.and_eq_true, decide_eq_true_eq, List.all_eq_true, List.mem_range]
  constructor
  · rintro ⟨⟨h1, h2, h3, h4, h5, h6⟩, h7⟩
    have hl := cnt_lens h4
    have hs : sumTo st ((op.length : Int) + out.length) st.length ≤ 20000 := by rw [← hl.2.2.2]; exact h4
    have h0 := sumTo_lo st ((op.length : Int) + out.length) (by omega) st.length
    refine ⟨⟨h1, h2, h3, by omega, h5, h6⟩, fun k hk => ⟨h7 k hk, ?_⟩⟩
    have hm := sumTo_mono st ((op.length : Int) + out.length) (k + 1) (st.length - (k + 1))
    rw [show k + 1 + (st.length - (k + 1)) = st.length by omega] at hm
    omega
  · rintro ⟨⟨h1, h2, h3, h4, h5, h6⟩, h7⟩
    have hs : sumTo st ((op.length : Int) + out.length) st.length ≤ 20000 := by
      cases hn : st.length with
      | zero => exact h4
      | succ j => exact (h7 j (by omega)).2
    have hc : cntS op st out ≤ 20000 := by unfold cntS; rw [(cnt_sum st op.length out.length st.length).2 hs]; exact hs
    exact ⟨⟨h1, h2, h3, hc, h5, h6⟩, fun k hk => (h7 k hk).1⟩
theorem rall_true {l : List Res} {room : Int} (h : (decide ((l.length : Int) ≤ room) && allB l) = true) : rall l room = (room - l.length, true) := by unfold rall; rw [if_pos h]
theorem rall_false {l : List Res} {room : Int} (h : (decide ((l.length : Int) ≤ room) && allB l) = false) : rall l room = (0, false) := by unfold rall; rw [if_neg (by rw [h]; simp)]
def RmRel (st : List Stg) (last n : Int) (w0 : World) (r l i : Value) (wr : World) : Prop := ∃ k : Nat, k ≤ st.length ∧ i = .int .i64 k ∧ l = .int .i64 (prevS last st k) ∧ r = .int .i64 (20000 - sumTo st n k) ∧ sumTo st n k ≤ 20000 ∧ (List.range k).all (stR last st n) = true ∧ Below w0.heap.size w0 wr
set_option maxRecDepth 100000 in
set_option maxHeartbeats 4000000 in
theorem rroom_any (op : List Res) (st : List Stg) (last : Int) (out : List Res) (v : Value) (w : World) (hv : SinkAt w v op st last out) (a : Int) (b : Bool) (hab : roomS op st last out = (a, b)) :
    Calls Try.prog 57 #[v] w fun e w' => e = .returned (.tuple #[.int .i64 a, .bool b]) ∧ Below w.heap.size w w' := by
  obtain ⟨vo, vs, vu, rfl, h1, ⟨h2, h3, h4⟩, ⟨h5, h5'⟩, h6⟩ := hv
  have R1 := Lib.hid h1
  have R3 := Lib.hid h6
  have R2 := Lib.hid h2
  obtain ⟨⟨A1, c1, rfl, -, -⟩, -, m1⟩ := h1
  obtain ⟨⟨A3, c3, rfl, -, -⟩, -, m3⟩ := h6
  obtain ⟨A2, c2, rfl, hc2, hA⟩ := h2
  have HA := Lib.hid hA
  have H3 := Lib.hid h3
  have M1 := Lib.hid m1
  have M3 := Lib.hid m3
  clear hA h3
  unfold maxLen at m1 m3 h4
  have hab2 : (if rightS op st last out then ((20000 - sumTo st ((op.length : Int) + out.length) st.length, true) : Int × Bool) else (0, false)) = (a, b) := hab
  have HT : rightS op st last out = true → a = 20000 - sumTo st ((op.length : Int) + out.length) st.length ∧ b = true := by
    intro h; rw [if_pos h] at hab2; injection hab2 with x y; exact ⟨x.symm, y.symm⟩
  have HF : rightS op st last out = false → a = 0 ∧ b = false := by
    intro h; rw [if_neg (by rw [h]; simp)] at hab2; injection hab2 with x y; exact ⟨x.symm, y.symm⟩
  have HT := Lib.hid HT
  have HF := Lib.hid HF
  clear hab hab2
  have HRE := Lib.hid (right_eq op st last out)
  obtain ⟨n, hn⟩ : ∃ n, st.length = n := ⟨_, rfl⟩
  rw [hn] at h4 hc2 R2 ⊢
  have Hn := Lib.hid hn
  clear hn
  obtain ⟨lo, hlo⟩ : ∃ lo, op.length = lo := ⟨_, rfl⟩
  obtain ⟨lu, hlu⟩ : ∃ lu, out.length = lu := ⟨_, rfl⟩
  rw [hlo, hlu] at HT HRE
  rw [hlo] at m1 R1 M1 ⊢
  rw [hlu] at m3 R3 M3 ⊢
  have Hlo := Lib.hid hlo
  have Hlu := Lib.hid hlu
  clear hlo hlu
  obtain ⟨q1, hq1⟩ : ∃ q, (decide ((lo : Int) ≤ 20000) && allB op) = q := ⟨_, rfl⟩
  cases q1 with
  | false =>
    have P1 := Lib.hid (fun v W hW => rall_any op v 20000 W hW (by omega) (by omega) (by rw [Hlo.out]; exact M1.out) 0 false (rall_false (by rw [Hlo.out]; exact hq1)))
    obtain ⟨q2, hq2⟩ : ∃ q, (decide ((lu : Int) ≤ 0) && allB out) = q := ⟨_, rfl⟩
    have hf : a = 0 ∧ b = false := by
      refine HF.out ?_
      rw [HRE.out]
      unfold headR
      rw [Hlo.out, Hlu.out]
      revert hq1
      generalize allB op = x
      cases x <;> simp
      intros
      omega
    obtain ⟨rfl, rfl⟩ := hf
    obtain ⟨z, hz⟩ : ∃ z, rall out 0 = (z, q2) := by
      cases q2 with
      | true => exact ⟨_, rall_true (by rw [Hlu.out]; exact hq2)⟩
      | false => exact ⟨_, rall_false (by rw [Hlu.out]; exact hq2)⟩
    have P2 := Lib.hid (fun v W hW => rall_any out v 0 W hW (by omega) (by omega) (by rw [Hlu.out]; exact M3.out) z q2 hz)
    clear hq1 hq2 hz
    go_enter Try.func57, Try.ntmps57
    go_wp2_with fail
    refine (P1.out _ _ (R1.out.1.below (bel_alloc (Below.refl _ _) _))).mono ?_
    rintro e w1 ⟨rfl, hb1⟩
    have K1 := Lib.hid (newA hb1)
    have B1 := Lib.hid (belA (Below.refl _ _) hb1)
    have hz0 := blk_lt K1.out
    have d0 := cellsAt K1.out 0
    have d3 := cellsAt K1.out 3
    simp at d0 d3
    clear hb1
    go_wp2_with fail
    refine (P2.out _ _ (R3.out.1.below B1.out)).mono ?_
    rintro e w2 ⟨rfl, hb2⟩
    have B2 := Lib.hid (bThen B1.out hb2)
    clear hb2
    go_wp2_with fail
    go_ret2
    exact ⟨rfl, B2.out⟩
  | true =>
  have P1 := Lib.hid (fun v W hW => rall_any op v 20000 W hW (by omega) (by omega) (by rw [Hlo.out]; exact M1.out) (20000 - lo) true (by rw [rall_true (by rw [Hlo.out]; exact hq1), Hlo.out]))
  have hlo2 : (lo : Int) ≤ 20000 := by
    revert hq1
    rw [Bool.and_eq_true, decide_eq_true_eq]
    exact fun h => h.1
  have hop : allB op = true := by
    revert hq1
    rw [Bool.and_eq_true]
    exact fun h => h.2
  have HOP := Lib.hid hop
  clear hq1 hop
  obtain ⟨q2, hq2⟩ : ∃ q, (decide ((lu : Int) ≤ 20000 - lo) && allB out) = q := ⟨_, rfl⟩
  obtain ⟨z, hz, hzt⟩ : ∃ z, rall out (20000 - lo) = (z, q2) ∧ (q2 = true → z = 20000 - lo - lu ∧ (lu : Int) ≤ 20000 - lo) := by
    cases q2 with
    | true => exact ⟨_, rall_true (by rw [Hlu.out]; exact hq2), fun _ => ⟨by rw [Hlu.out], by rw [Bool.and_eq_true, decide_eq_true_eq] at hq2; exact hq2.1⟩⟩
    | false => exact ⟨_, rall_false (by rw [Hlu.out]; exact hq2), by simp⟩
  have P2 := Lib.hid (fun v W hW => rall_any out v (20000 - lo) W hW (by omega) (by omega) (by rw [Hlu.out]; exact M3.out) z q2 hz)
  have hhead : headR op st last out = (decide (0 ≤ last) && (decide (last ≤ 1073741824) && (decide (n ≤ 8) && q2))) := by
    unfold headR
    rw [Hlo.out, Hlu.out, Hn.out, HOP.out, ← hq2, Bool.true_and]
    congr 3
    congr 1
    rw [Bool.eq_iff_iff, decide_eq_true_eq, decide_eq_true_eq]
    omega
  have HH := Lib.hid hhead
  have HZT := Lib.hid hzt
  clear hhead hq2 hz hzt
  go_enter Try.func57, Try.ntmps57
  go_wp2_with fail
  refine (P1.out _ _ (R1.out.1.below (bel_alloc (Below.refl _ _) _))).mono ?_
  rintro e w1 ⟨rfl, hb1⟩
  have K1 := Lib.hid (newA hb1)
  have B1 := Lib.hid (belA (Below.refl _ _) hb1)
  have hz0 := blk_lt K1.out
  have d0 := cellsAt K1.out 0
  have d1 := cellsAt K1.out 1
  have d2 := cellsAt K1.out 2
  have d3 := cellsAt K1.out 3
  simp at d0 d1 d2 d3
  clear hb1
  go_wp2_with fail
  refine (P2.out _ _ (R3.out.1.below B1.out)).mono ?_
  rintro e w2 ⟨rfl, hb2⟩
  have e1 := (hb2.cell (p := ⟨w.heap.size, 1, none⟩) hz0).trans d1
  have e2 := (hb2.cell (p := ⟨w.heap.size, 2, none⟩) hz0).trans d2
  have hz2 := hb2.size
  have hz20 : w.heap.size < w2.heap.size := by omega
  have B2 := Lib.hid (bThen B1.out hb2)
  clear hb2 d0 d1 d2 d3
  cases q2 with
  | false =>
    have hf := HF.out (by rw [HRE.out, HH.out]; simp)
    obtain ⟨rfl, rfl⟩ := hf
    go_wp2_with fail
    go_ret2
    exact ⟨rfl, B2.out⟩
  | true =>
  obtain ⟨hze, hlu2⟩ := HZT.out rfl
  by_cases g1 : 0 ≤ last
  rotate_left
  · have hf := HF.out (by rw [HRE.out, HH.out]; simp [g1])
    obtain ⟨rfl, rfl⟩ := hf
    go_wp2_with fail
    go_ret2
    exact ⟨rfl, B2.out⟩
  by_cases g2 : last ≤ 1073741824
  rotate_left
  · have hf := HF.out (by rw [HRE.out, HH.out]; simp [g2])
    obtain ⟨rfl, rfl⟩ := hf
    go_wp2_with fail
    go_ret2
    exact ⟨rfl, B2.out⟩
  by_cases g3 : n ≤ 8
  rotate_left
  · have hf := HF.out (by rw [HRE.out, HH.out]; simp [g3])
    obtain ⟨rfl, rfl⟩ := hf
    go_wp2_with fail
    go_ret2
    exact ⟨rfl, B2.out⟩
  have HHD := Lib.hid (show headR op st last out = true by rw [HH.out]; simp [g1, g2, g3])
  obtain ⟨sn, hsn⟩ : ∃ sn : Int, (lo : Int) + lu = sn := ⟨_, rfl⟩
  have HSN := Lib.hid hsn
  clear hsn
  go_wp2_with fail
  go_loopw [4, 7, 52] (fun r l i wr => RmRel st last sn w2 r l i wr) (fun _ _ i _ => n - (intOf i).toNat)
  case atStart =>
    exact ⟨0, Nat.zero_le _, rfl, rfl, by show _ = Value.int .i64 (20000 - sn); rw [← HSN.out]; congr 1; omega, by show sn ≤ 20000; rw [← HSN.out]; omega, rfl, Below.refl _ _⟩
  case round =>
    obtain ⟨k, hk, rfl, rfl, rfl, hsum, hall, hbel⟩ := hrel
    rw [Hn.out] at hk
    have HB := Lib.hid hbel
    have HA1 := Lib.hid hall
    clear hbel hall
    obtain ⟨sk, hsk⟩ : ∃ sk, sumTo st sn k = sk := ⟨_, rfl⟩
    rw [hsk] at hsum ⊢
    have hsk0 : 0 ≤ sk := by rw [← hsk, ← HSN.out]; have := sumTo_lo st ((lo : Int) + lu) (by omega) k; omega
    by_cases hlt : k < n
    · obtain ⟨x, hi⟩ : ∃ x, st[k]? = some x := ⟨_, List.getElem?_eq_getElem (by rw [Hn.out]; exact hlt)⟩
      obtain ⟨bb, o, rfl, hbb, hX⟩ := HA.out (by rw [Hn.out]; omega)
      have c0 := ((bThen B2.out HB.out).cell (p := ⟨bb, o + k * 2 + 0, none⟩) hbb).trans (hX k x 0 _ hi rfl)
      have c1 := ((bThen B2.out HB.out).cell (p := ⟨bb, o + k * 2 + 1, none⟩) hbb).trans (hX k x 1 _ hi rfl)
      have hxk : st[k]! = x := by rw [List.getElem!_eq_getElem?_getD, hi]; rfl
      have hat := H3.out x (List.mem_of_getElem? hi)
      clear hX
      obtain ⟨xn, row, xl⟩ := x
      obtain ⟨hxn, hrow⟩ := hat
      have HR := Lib.hid hrow
      obtain ⟨⟨AX, cx, hrw, hcx, -⟩, -, mx⟩ := hrow
      have MX := Lib.hid mx
      have hrow' : row = .slice AX xl.length cx := hrw
      subst hrow'
      simp only [Nat.add_zero] at c0 c1 hxk hcx mx
      unfold maxLen at mx
      obtain ⟨p, hp⟩ : ∃ p, prevS last st k = p := ⟨_, rfl⟩
      obtain ⟨lx, hlx⟩ : ∃ lx, xl.length = lx := ⟨_, rfl⟩
      rw [hlx] at c1 hcx mx HR
      obtain ⟨q, hq⟩ : ∃ q, (decide ((lx : Int) ≤ 20000 - sk) && allB xl) = q := ⟨_, rfl⟩
      have hsum1 : sumTo st sn (k + 1) = sk + lx := by show sumTo st sn k + (st[k]!.l.length : Int) = sk + lx; rw [hsk, hxk, ← hlx]
      have hxk2 : stR last st sn k = (decide (p < xn) && (decide (xn ≤ 1073741824) && q)) := by
        unfold stR stAt
        rw [hp, hxk, hsum1, ← hq, Bool.and_assoc, Bool.and_assoc, Bool.and_comm (allB xl)]
        congr 4
        rw [eq_iff_iff]
        omega
      rw [hp]
      obtain ⟨zz, hzz, hzzt⟩ : ∃ zz, rall xl (20000 - sk) = (zz, q) ∧ (q = true → zz = 20000 - sk - lx ∧ (lx : Int) ≤ 20000 - sk) := by
        cases q with
        | true => exact ⟨_, rall_true (by rw [hlx]; exact hq), fun _ => ⟨by rw [hlx], by rw [Bool.and_eq_true, decide_eq_true_eq] at hq; exact hq.1⟩⟩
        | false => exact ⟨_, rall_false (by rw [hlx]; exact hq), by simp⟩
      have P4 := Lib.hid (fun v W hW => rall_any xl v (20000 - sk) W hW (by omega) (by omega) MX.out zz q hzz)
      have HXK := Lib.hid hxk
      have HX2 := Lib.hid hxk2
      have HS1 := Lib.hid hsum1
      clear hxk hi hrw hp hq hxk2 hzz hsum1 hsk hlx
      go_wp2_with fail
      refine (P4.out _ _ (HR.out.1.below (bThen B2.out (bel_alloc HB.out _)))).mono ?_
      rintro e w5 ⟨rfl, hb5⟩
      have K5 := Lib.hid (newA hb5)
      have B5 := Lib.hid (belA HB.out hb5)
      clear hb5 c0 c1
      have e0 := cellsAt K5.out 0
      have hz5 := blk_lt K5.out
      simp at e0
      cases q with
      | false =>
        have hf := HF.out (by rw [HRE.out, HSN.out, Hn.out, all_range_not (stR last st sn) hlt (by rw [HX2.out]; simp), Bool.and_false])
        obtain ⟨rfl, rfl⟩ := hf
        go_wp2_with fail
        go_ret2
        exact ⟨rfl, bThen B2.out B5.out⟩
      | true =>
      obtain ⟨rfl, hlxs⟩ := hzzt rfl
      by_cases j1 : p < xn
      rotate_left
      · have hf := HF.out (by rw [HRE.out, HSN.out, Hn.out, all_range_not (stR last st sn) hlt (by rw [HX2.out]; simp [j1]), Bool.and_false])
        obtain ⟨rfl, rfl⟩ := hf
        go_wp2_with fail
        go_ret2
        exact ⟨rfl, bThen B2.out B5.out⟩
      by_cases j2 : xn ≤ 1073741824
      rotate_left
      · have hf := HF.out (by rw [HRE.out, HSN.out, Hn.out, all_range_not (stR last st sn) hlt (by rw [HX2.out]; simp [j2]), Bool.and_false])
        obtain ⟨rfl, rfl⟩ := hf
        go_wp2_with fail
        go_ret2
        exact ⟨rfl, bThen B2.out B5.out⟩
      go_wp2_with fail
      go_roundw
      case rel => exact ⟨k + 1, by rw [Hn.out]; omega, by go_num, by unfold prevS; rw [if_neg (by omega), Nat.add_sub_cancel, HXK.out], by rw [HS1.out]; congr 1; omega, by rw [HS1.out]; omega, by rw [all_range_succ, HA1.out, HX2.out]; simp [j1, j2], B5.out⟩
      case measure => simp [intOf]; omega
    · have hkn : k = n := by omega
      subst hkn
      have hf := HT.out (by rw [HRE.out, HHD.out, HSN.out, Hn.out, HA1.out]; rfl)
      rw [HSN.out, Hn.out, hsk] at hf
      obtain ⟨rfl, rfl⟩ := hf
      clear hsk
      go_wp2_with fail
      go_ret2
      exact ⟨rfl, bThen B2.out HB.out⟩
set_option maxRecDepth 100000 in
theorem rsright_any (op : List Res) (st : List Stg) (last : Int) (out : List Res) (v : Value) (w : World) (hv : SinkAt w v op st last out) (b : Bool) (hb : rightS op st last out = b) :
    Calls Try.prog 36 #[v] w fun e w' => e = .returned (.bool b) ∧ Below w.heap.size w w' := by
  obtain ⟨a, ha⟩ : ∃ a, roomS op st last out = (a, b) := by
    unfold roomS
    rw [hb]
    cases b with
    | true => exact ⟨_, rfl⟩
    | false => exact ⟨_, rfl⟩
  have HR := Lib.hid (fun v W hW => rroom_any op st last out v W hW a b ha)
  have HV := Lib.hid hv
  clear ha hb
  obtain ⟨vo, vs, vu, rfl, ⟨⟨A1, c1, rfl, -, -⟩, -⟩, ⟨⟨A2, c2, rfl, -, -⟩, -⟩, -, ⟨⟨A3, c3, rfl, -, -⟩, -⟩⟩ := hv
  go_enter Try.func36, Try.ntmps36
  go_wp2_with fail
  refine (HR.out _ _ (HV.out.below (bel_alloc (Below.refl _ _) _))).mono ?_
  rintro e w1 ⟨rfl, hb1⟩
  have HB := Lib.hid (belA (Below.refl _ _) hb1)
  clear hb1
  go_wp2_with fail
  go_ret
  exact ⟨rfl, HB.out⟩
end Go.Proofs.Ytenpgkkefielfaa
