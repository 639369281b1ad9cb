/-
  WALKS of layer 19: the program's Right.
-/
import Derived.Test.YtenpgkkefielfaaSinkP
set_option linter.unusedVariables false
set_option linter.unusedSimpArgs false
namespace Go.Proofs.Ytenpgkkefielfaa
open Go.RowKit

def SrRel (st : List Stg) (last : Int) (w0 : World) (l i : Value) (wr : World) : Prop := ∃ k : Nat, k ≤ st.length ∧ i = .int .i64 k ∧ l = .int .i64 (prevS last st k) ∧ (List.range k).all (stAt last st) = true ∧ Below w0.heap.size w0 wr
set_option maxRecDepth 100000 in
set_option maxHeartbeats 4000000 in
theorem sright_any (op : List Res) (st : List Stg) (last : Int) (out : List Res) (v : Value) (w : World) (hv : SinkAt w v op st last out) (b : Bool) (hb : rightS op st last out = b) :
    Calls Try.prog 35 #[v] w fun e w' => e = .returned (.bool b) ∧ Below w.heap.size w w' := by
  have HV := Lib.hid hv
  obtain ⟨vo, vs, vu, rfl, h1, ⟨h2, h3, h4⟩, ⟨h5, h5'⟩, h6⟩ := hv
  have R1 := Lib.hid h1
  have R3 := Lib.hid h6
  have R2 := Lib.hid h2
  obtain ⟨⟨A1, c1, rfl, -, -⟩, -, m1⟩ := h1
  obtain ⟨⟨A3, c3, rfl, -, -⟩, -, m3⟩ := h6
  obtain ⟨A2, c2, rfl, hc2, hA⟩ := h2
  have HA := Lib.hid hA
  have H3 := Lib.hid h3
  clear hA h3
  unfold maxLen at m1 m3 h4
  have HC := Lib.hid (fun v W hW => count_any op st last out v W hW)
  obtain ⟨n, hn⟩ : ∃ n, st.length = n := ⟨_, rfl⟩
  rw [hn] at h4 hc2 HV R2 ⊢
  have Hn := Lib.hid hn
  by_cases g1 : 0 ≤ last
  rotate_left
  · have hf : b = false := by rw [← hb]; unfold rightS headS; simp [g1]
    subst hf
    clear hb hn
    go_enter Try.func35, Try.ntmps35
    go_wp2_with fail
    go_ret
    exact ⟨rfl, bel_alloc (Below.refl _ _) _⟩
  by_cases g2 : last ≤ 1073741824
  rotate_left
  · have hf : b = false := by rw [← hb]; unfold rightS headS; simp [g2]
    subst hf
    clear hb hn
    go_enter Try.func35, Try.ntmps35
    go_wp2_with fail
    go_ret
    exact ⟨rfl, bel_alloc (Below.refl _ _) _⟩
  by_cases g3 : n ≤ 8
  rotate_left
  · have hf : b = false := by rw [← hb]; unfold rightS headS; rw [hn]; simp [g3]
    subst hf
    clear hb hn
    go_enter Try.func35, Try.ntmps35
    go_wp2_with fail
    go_ret
    exact ⟨rfl, bel_alloc (Below.refl _ _) _⟩
  have HB0 := Lib.hid hb
  clear hb hn
  obtain ⟨cn, hcn⟩ : ∃ cn, cntS op st out = cn := ⟨_, rfl⟩
  rw [hcn] at HC
  have HCN := Lib.hid hcn
  clear hcn
  go_enter Try.func35, Try.ntmps35
  go_wp2_with fail
  refine (HC.out _ _ (HV.out.below (bel_alloc (Below.refl _ _) _))).mono ?_
  rintro e w1 ⟨rfl, hb1⟩
  have K1 := Lib.hid (newA hb1)
  have B1 := Lib.hid (belA (Below.refl _ _) hb1)
  clear hb1
  by_cases g4 : cn ≤ 20000
  rotate_left
  · have hf : b = false := by rw [← HB0.out]; unfold rightS headS; rw [HCN.out]; simp [g4]
    subst hf
    go_wp2_with fail
    go_ret
    exact ⟨rfl, B1.out⟩
  have hl := cnt_lens (HCN.out ▸ g4)
  have HL := Lib.hid hl
  have hl1 := hl.1
  have hl3 := hl.2.1
  clear hl
  have hz := B1.out.size
  have hz0 := blk_lt K1.out
  have d0 := cellsAt K1.out 0
  have d1 := cellsAt K1.out 1
  have d2 := cellsAt K1.out 2
  have d3 := cellsAt K1.out 3
  simp at d0 d1 d2 d3
  obtain ⟨q1, hq1⟩ : ∃ q, allB op = q := ⟨_, rfl⟩
  have HQ1 := Lib.hid hq1
  have P1 := Lib.hid (fun v W hW => all_any op v W hW (by omega) q1 hq1)
  clear hq1
  go_wp2_with fail
  refine (P1.out _ _ (R1.out.1.below B1.out)).mono ?_
  rintro e w2 ⟨rfl, hb2⟩
  cases q1 with
  | false =>
    have hf : b = false := by rw [← HB0.out]; unfold rightS headS; rw [HQ1.out]; simp
    subst hf
    go_wp2_with fail
    go_ret
    exact ⟨rfl, bThen B1.out hb2⟩
  | true =>
  have e0 := (hb2.cell (p := ⟨w.heap.size, 0, none⟩) hz0).trans d0
  have e1 := (hb2.cell (p := ⟨w.heap.size, 1, none⟩) hz0).trans d1
  have e2 := (hb2.cell (p := ⟨w.heap.size, 2, none⟩) hz0).trans d2
  have e3 := (hb2.cell (p := ⟨w.heap.size, 3, none⟩) hz0).trans d3
  have hz2 := hb2.size
  have hz20 : w.heap.size < w2.heap.size := by omega
  have B2 := Lib.hid (bThen B1.out hb2)
  clear hb2 d0 d1 d2 d3
  obtain ⟨q2, hq2⟩ : ∃ q, allB out = q := ⟨_, rfl⟩
  have HQ2 := Lib.hid hq2
  have P2 := Lib.hid (fun v W hW => all_any out v W hW (by omega) q2 hq2)
  clear hq2
  go_wp2_with fail
  refine (P2.out _ _ (R3.out.1.below B2.out)).mono ?_
  rintro e w3 ⟨rfl, hb3⟩
  cases q2 with
  | false =>
    have hf : b = false := by rw [← HB0.out]; unfold rightS headS; rw [HQ2.out]; simp
    subst hf
    go_wp2_with fail
    go_ret
    exact ⟨rfl, bThen B2.out hb3⟩
  | true =>
  have f1 := (hb3.cell (p := ⟨w.heap.size, 1, none⟩) hz20).trans e1
  have f2 := (hb3.cell (p := ⟨w.heap.size, 2, none⟩) hz20).trans e2
  have hz3 := hb3.size
  have hz30 : w.heap.size < w3.heap.size := by omega
  have B3 := Lib.hid (bThen B2.out hb3)
  clear hb3 e0 e1 e2 e3
  have HD : headS op st last out = true := by
    unfold headS; rw [HCN.out, HQ1.out, HQ2.out, Hn.out]; simp [g1, g2, g3, g4]
  have HHD := Lib.hid HD
  clear HD
  go_wp2_with fail
  go_loopw [3, 42] (fun l i wr => SrRel st last w3 l i wr) (fun _ i _ => n - (intOf i).toNat)
  case atStart => exact ⟨0, Nat.zero_le _, rfl, rfl, rfl, Below.refl _ _⟩
  case round =>
    obtain ⟨k, hk, rfl, rfl, hall, hbel⟩ := hrel
    rw [Hn.out] at hk
    have HB := Lib.hid hbel
    have HA1 := Lib.hid hall
    clear hbel hall
    by_cases hlt : k < n
    · obtain ⟨x, hi⟩ : ∃ x, st[k]? = some x := ⟨_, List.getElem?_eq_getElem (by rw [Hn.out]; exact hlt)⟩
      obtain ⟨bb, o, rfl, hbb, hX⟩ := HA.out (by rw [Hn.out]; omega)
      have c0 := ((bThen B3.out HB.out).cell (p := ⟨bb, o + k * 2 + 0, none⟩) hbb).trans (hX k x 0 _ hi rfl)
      have c1 := ((bThen B3.out HB.out).cell (p := ⟨bb, o + k * 2 + 1, none⟩) hbb).trans (hX k x 1 _ hi rfl)
      have hxk : st[k]! = x := by rw [List.getElem!_eq_getElem?_getD, hi]; rfl
      have hat := H3.out x (List.mem_of_getElem? hi)
      have hlen := HL.out.2.2.1 k (by rw [Hn.out]; exact hlt)
      rw [hxk] at hlen
      clear hX
      obtain ⟨xn, row, xl⟩ := x
      obtain ⟨hxn, hrow⟩ := hat
      have HR := Lib.hid hrow
      obtain ⟨⟨AX, cx, hrw, hcx, -⟩, -, mx⟩ := hrow
      have hrow' : row = .slice AX xl.length cx := hrw
      subst hrow'
      simp only [Nat.add_zero] at c0 c1 hxk hcx mx hlen
      obtain ⟨p, hp⟩ : ∃ p, prevS last st k = p := ⟨_, rfl⟩
      have hxk2 : stAt last st k = (decide (p < xn) && (decide (xn ≤ 1073741824) && allB xl)) := by unfold stAt; rw [hp, hxk]
      rw [hp]
      obtain ⟨q, hq⟩ : ∃ q, allB xl = q := ⟨_, rfl⟩
      have P4 := Lib.hid (fun v W hW => all_any xl v W hW (by omega) q hq)
      rw [hq] at hxk2
      have HXK := Lib.hid hxk
      have HX2 := Lib.hid hxk2
      clear hxk hi hrw hp hq hxk2
      by_cases j1 : p < xn
      rotate_left
      · have hf : b = false := by rw [← HB0.out]; unfold rightS; rw [all_range_not (stAt last st) (by rw [Hn.out]; exact hlt) (by rw [HX2.out]; simp [j1]), Bool.and_false]
        subst hf
        go_wp2_with fail
        go_ret
        exact ⟨rfl, bThen B3.out (bel_alloc HB.out _)⟩
      by_cases j2 : xn ≤ 1073741824
      rotate_left
      · have hf : b = false := by rw [← HB0.out]; unfold rightS; rw [all_range_not (stAt last st) (by rw [Hn.out]; exact hlt) (by rw [HX2.out]; simp [j2]), Bool.and_false]
        subst hf
        go_wp2_with fail
        go_ret
        exact ⟨rfl, bThen B3.out (bel_alloc HB.out _)⟩
      go_wp2_with fail
      refine (P4.out _ _ (HR.out.1.below (bThen B3.out (bel_alloc HB.out _)))).mono ?_
      rintro e w5 ⟨rfl, hb5⟩
      have K5 := Lib.hid (newA hb5)
      have B5 := Lib.hid (belA HB.out hb5)
      clear hb5 c0 c1
      cases q with
      | false =>
        have hf : b = false := by rw [← HB0.out]; unfold rightS; rw [all_range_not (stAt last st) (by rw [Hn.out]; exact hlt) (by rw [HX2.out]; simp), Bool.and_false]
        subst hf
        go_wp2_with fail
        go_ret
        exact ⟨rfl, bThen B3.out B5.out⟩
      | true =>
        have e0 := cellsAt K5.out 0
        have hz5 := blk_lt K5.out
        simp at e0
        go_wp2_with fail
        go_roundw
        case rel => exact ⟨k + 1, by rw [Hn.out]; omega, by go_num, by unfold prevS; rw [if_neg (by omega), Nat.add_sub_cancel, HXK.out], by rw [all_range_succ, HA1.out, HX2.out]; simp [j1, j2], B5.out⟩
        case measure => simp [intOf]; omega
    · have hkn : k = n := by omega
      subst hkn
      have hf : b = true := by rw [← HB0.out]; unfold rightS; rw [HHD.out, Hn.out, HA1.out]; rfl
      subst hf
      go_wp2_with fail
      go_ret
      exact ⟨rfl, bThen B3.out HB.out⟩
end Go.Proofs.Ytenpgkkefielfaa
