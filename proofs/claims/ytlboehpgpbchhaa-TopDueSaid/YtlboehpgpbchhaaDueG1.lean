/-
  WALKS of the top laws: which groups may be.
-/
import Derived.Test.YtlboehpgpbchhaaTopW23
set_option linter.unusedVariables false
set_option linter.unusedSimpArgs false
namespace Go.Proofs.Ytlboehpgpbchhaa
open Go.RowKit

theorem closed_any (lo hi m : Int) (w : World) : Calls Try.prog 34 #[.agg #[.int .i64 lo, .int .i64 hi], .int .i64 m] w fun e w' => e = .returned (.bool (decide (hi ≤ m))) ∧ Below w.heap.size w w' := by
  go_enter Try.func34, Try.ntmps34
  go_wp2
  go_ret
  exact ⟨rfl, bel_alloc (Below.refl _ _) _⟩
/-- The group's box. -/
def GBx (g : Nat) (no m : Int) (v : Value) (W : World) : Prop := W.heap[g]? = some (.cells #[.int .i64 no, .int .i64 m, v] 49 (0, 0))
theorem pclosed_any (p : Pn) (g : Nat) (no m : Int) (v : Value) (w : World) (hg : GBx g no m v w) : Calls Try.prog 49 #[p.val, .pointer (some ⟨g, 0, none⟩)] w fun e w' => e = .returned (.bool (decide (p.hi ≤ m))) ∧ Below w.heap.size w w' := by
  have HC := Lib.hid (fun w => closed_any p.lo p.hi m w)
  have h1 : w.cell? ⟨g, 1, none⟩ = some (.int .i64 m) := cellsAt hg 1
  have z := blk_lt hg
  obtain ⟨lo, hi, k, n, a, b⟩ := p
  unfold Pn.val
  simp only at HC ⊢
  go_enter Try.func49, Try.ntmps49
  go_wp2_with fail
  refine (HC.out _).mono ?_
  rintro e w' ⟨rfl, hb⟩
  have HB := Lib.hid (belA (Below.refl _ _) hb)
  clear hb
  go_wp2_with fail
  go_ret
  exact ⟨rfl, HB.out⟩
/-- None of them is closed. -/
def opB (m : Int) (l : List Pn) : Bool := l.all (fun p => !decide (p.hi ≤ m))
def GiRel (m : Int) (l : List Pn) (w : World) (i : Value) (wr : World) : Prop := ∃ k : Nat, k ≤ l.length ∧ i = .int .i64 k ∧ opB m (l.take k) = true ∧ Below w.heap.size w wr
theorem op_succ {m : Int} {l : List Pn} {k : Nat} {x : Pn} (h : l[k]? = some x) : opB m (l.take (k + 1)) = (opB m (l.take k) && !decide (x.hi ≤ m)) := by
  unfold opB
  rw [List.take_add_one, h]
  simp
theorem op_not {m : Int} {l : List Pn} {k : Nat} {x : Pn} (h : l[k]? = some x) (hx : decide (x.hi ≤ m) = true) : opB m l = false := by
  unfold opB
  rw [List.all_eq_false]
  exact ⟨x, List.mem_of_getElem? h, by simp [hx]⟩
set_option maxRecDepth 100000 in
set_option maxHeartbeats 2000000 in
theorem gindex_any (li : List Pn) (v : Value) (g : Nat) (no m : Int) (vg : Value) (w : World) (hv : Row Pn.cs 6 w v li) (hl : li.length ≤ 2000) (hg : GBx g no m vg w) :
    Calls Try.prog 66 #[v, .func (.func 49) #[] #[.pointer (some ⟨g, 0, none⟩)]] w fun e w' => ∃ r : Int, e = .returned (.int .i64 r) ∧ decide (0 ≤ r) = (!opB m li) ∧ Below w.heap.size w w' := by
  have HV := Lib.hid hv
  have HG := Lib.hid hg
  obtain ⟨A, c, rfl, hc, hA⟩ := hv
  have HA := Lib.hid hA
  clear hA hg
  obtain ⟨n, hn⟩ : ∃ n, li.length = n := ⟨_, rfl⟩
  rw [hn] at hl hc HV ⊢
  have Hn := Lib.hid hn
  clear hn
  go_enter Try.func66, Try.ntmps66
  go_wp2_with fail
  go_loopw [8] (fun i wr => GiRel m li w i wr) (fun i _ => n - (intOf i).toNat)
  case atStart => exact ⟨0, Nat.zero_le _, rfl, rfl, Below.refl _ _⟩
  case round =>
    obtain ⟨k, hk, rfl, hall, hbel⟩ := hrel
    rw [Hn.out] at hk
    have HB := Lib.hid hbel
    have HL := Lib.hid hall
    clear hbel hall
    by_cases hlt : k < n
    · obtain ⟨x, hi⟩ : ∃ x, li[k]? = some x := ⟨_, List.getElem?_eq_getElem (by rw [Hn.out]; exact hlt)⟩
      obtain ⟨b, o, rfl, hb, hX⟩ := HA.out (by rw [Hn.out]; omega)
      have c0 := (HB.out.cell (p := ⟨b, o + k * 6 + 0, none⟩) hb).trans (hX k x 0 _ hi rfl)
      have c1 := (HB.out.cell (p := ⟨b, o + k * 6 + 1, none⟩) hb).trans (hX k x 1 _ hi rfl)
      have c2 := (HB.out.cell (p := ⟨b, o + k * 6 + 2, none⟩) hb).trans (hX k x 2 _ hi rfl)
      have c3 := (HB.out.cell (p := ⟨b, o + k * 6 + 3, none⟩) hb).trans (hX k x 3 _ hi rfl)
      have c4 := (HB.out.cell (p := ⟨b, o + k * 6 + 4, none⟩) hb).trans (hX k x 4 _ hi rfl)
      have c5 := (HB.out.cell (p := ⟨b, o + k * 6 + 5, none⟩) hb).trans (hX k x 5 _ hi rfl)
      clear hX
      obtain ⟨q, hq⟩ : ∃ q, decide (x.hi ≤ m) = q := ⟨_, rfl⟩
      have HP := Lib.hid (fun W h => pclosed_any x g no m vg W h)
      rw [hq] at HP
      have HX := Lib.hid hq
      have HI := Lib.hid hi
      obtain ⟨lo, hx, ks, pn, pa, pb⟩ := x
      unfold Pn.val at HP
      simp only [Nat.add_zero] at c0 c1 c2 c3 c4 c5 HP
      clear hq hi
      go_wp2_with fail
      refine (HP.out _ (heap_below HG.out HB.out)).mono ?_
      rintro e w2 ⟨rfl, hb2⟩
      have HB2 := Lib.hid (bThen HB.out hb2)
      clear hb2 HB c0 c1 c2 c3 c4 c5
      cases q with
      | false =>
        go_wp2_with fail
        go_roundw
        case rel => exact ⟨k + 1, by rw [Hn.out]; omega, by go_num, by rw [op_succ HI.out, HL.out, HX.out]; rfl, HB2.out⟩
        case measure => simp [intOf]; omega
      | true =>
        go_wp2_with fail
        go_ret
        exact ⟨_, rfl, by rw [op_not HI.out HX.out]; simp, HB2.out⟩
    · have hkn : k = n := by omega
      subst hkn
      go_wp2_with fail
      go_ret
      have := HL.out
      rw [← Hn.out, List.take_length] at this
      exact ⟨_, rfl, by rw [this]; decide, HB.out⟩
theorem gcont_any (li : List Pn) (v : Value) (g : Nat) (no m : Int) (vg : Value) (w : World) (hv : Row Pn.cs 6 w v li) (hl : li.length ≤ 2000) (hg : GBx g no m vg w) :
    Calls Try.prog 48 #[v, .func (.func 49) #[] #[.pointer (some ⟨g, 0, none⟩)]] w fun e w' => e = .returned (.bool (!opB m li)) ∧ Below w.heap.size w w' := by
  have HI := Lib.hid (gindex_any li v g no m vg w hv hl hg)
  obtain ⟨A, c, rfl, -, -⟩ := hv
  clear hg
  go_enter Try.func48, Try.ntmps48
  go_wp2_with fail
  refine (HI.out).mono ?_
  rintro e w2 ⟨r, rfl, hr, hb2⟩
  have HR := Lib.hid hr
  have HB2 := Lib.hid hb2
  clear hr hb2
  go_wp2_with fail
  go_ret
  exact ⟨by rw [← HR.out]; rfl, HB2.out⟩
/-- May a group be? -/
def grR (no m : Int) (l : List Pn) : Bool := decide (0 ≤ no) && decide (no < 32) && decide (0 ≤ m) && decide (m ≤ 1099511627776) && prB l && opB m l
set_option maxRecDepth 100000 in
set_option maxHeartbeats 4000000 in
theorem gright_any (no m : Int) (l : List Pn) (v : Value) (w : World) (hv : Row Pn.cs 6 w v l) (hwf : ∀ p ∈ l, p.k.size ≤ maxLen) (hm : l.length ≤ maxLen) :
    Calls Try.prog 26 #[.agg #[.int .i64 no, .int .i64 m, v]] w fun e w' => e = .returned (.bool (grR no m l)) ∧ Below w.heap.size w w' := by
  obtain ⟨q, hq⟩ : ∃ q, grR no m l = q := ⟨_, rfl⟩
  have HQ := Lib.hid hq
  have HV := Lib.hid hv
  have HPR := Lib.hid (fun w h => pright_any l v w h hwf hm)
  have HCO := Lib.hid (fun w h hl g hg => gcont_any l v g no m v w h hl hg)
  obtain ⟨bp, hbp⟩ : ∃ x, prB l = x := ⟨_, rfl⟩
  obtain ⟨bo, hbo⟩ : ∃ x, opB m l = x := ⟨_, rfl⟩
  have HBP := Lib.hid hbp
  have HBO := Lib.hid hbo
  have HQ2 := Lib.hid (show q = (decide (0 ≤ no) && decide (no < 32) && decide (0 ≤ m) && decide (m ≤ 1099511627776) && bp && bo) by rw [← hq, ← hbp, ← hbo]; rfl)
  rw [hbp] at HPR
  rw [hbo] at HCO
  rw [hq]
  obtain ⟨A, c, rfl, hc, -⟩ := hv
  obtain ⟨n, hn⟩ : ∃ n, l.length = n := ⟨_, rfl⟩
  have HN := Lib.hid hn
  rw [hn] at HV HPR HCO ⊢
  clear hq hwf hm hbp hbo hn hc
  go_enter Try.func26, Try.ntmps26
  have hG := heap_at w (.cells #[.int .i64 no, .int .i64 m, .slice A n c] 49 (0, 0)) _ rfl
  have BG := Lib.hid (show GBx w.heap.size no m (.slice A n c) (w.alloc (.cells #[.int .i64 no, .int .i64 m, .slice A n c] 49)) from hG)
  have RW := Lib.hid (HV.out.alloc (.cells #[.int .i64 no, .int .i64 m, .slice A n c] 49))
  clear hG
  by_cases h1 : 0 ≤ no
  rotate_left
  · have d1 : decide (no < 0) = true := decide_eq_true (by omega)
    go_wp2_with fail
    go_ret
    exact ⟨by rw [HQ2.out]; simp; omega, bel_alloc (Below.refl _ _) _⟩
  by_cases h2 : no < 32
  rotate_left
  · have d2 : decide (32 ≤ no) = true := decide_eq_true (by omega)
    have d1 : decide (no < 0) = false := decide_eq_false (by omega)
    go_wp2_with fail
    go_ret
    exact ⟨by rw [HQ2.out]; simp; omega, bel_alloc (Below.refl _ _) _⟩
  by_cases h3 : 0 ≤ m
  rotate_left
  · have d3 : decide (m < 0) = true := decide_eq_true (by omega)
    have d1 : decide (no < 0) = false := decide_eq_false (by omega)
    have d2 : decide (32 ≤ no) = false := decide_eq_false (by omega)
    go_wp2_with fail
    go_ret
    exact ⟨by rw [HQ2.out]; simp; omega, bel_alloc (Below.refl _ _) _⟩
  by_cases h4 : m ≤ 1099511627776
  rotate_left
  · have d4 : decide (1099511627776 < m) = true := decide_eq_true (by omega)
    have d1 : decide (no < 0) = false := decide_eq_false (by omega)
    have d2 : decide (32 ≤ no) = false := decide_eq_false (by omega)
    have d3 : decide (m < 0) = false := decide_eq_false (by omega)
    go_wp2_with fail
    go_ret
    exact ⟨by rw [HQ2.out]; simp; omega, bel_alloc (Below.refl _ _) _⟩
  have d1 : decide (no < 0) = false := decide_eq_false (by omega)
  have d2 : decide (32 ≤ no) = false := decide_eq_false (by omega)
  have d3 : decide (m < 0) = false := decide_eq_false (by omega)
  have d4 : decide (1099511627776 < m) = false := decide_eq_false (by omega)
  go_wp2_with fail
  refine (HPR.out _ RW.out).mono ?_
  rintro e w2 ⟨rfl, hb2⟩
  have B2 := Lib.hid (belA (Below.refl _ _) hb2)
  have RW2 := Lib.hid (RW.out.below hb2)
  have BG2 := Lib.hid (show GBx w.heap.size no m (.slice A n c) w2 from heap_below BG.out hb2)
  clear hb2
  cases bp with
  | false =>
    go_wp2_with fail
    go_ret
    exact ⟨by rw [HQ2.out]; simp, B2.out⟩
  | true =>
    have hn2 : l.length ≤ 2000 := by
      have := HBP.out
      unfold prB at this
      simp only [Bool.and_eq_true, decide_eq_true_eq] at this
      exact this.1
    have HN2 := Lib.hid hn2
    have z2 := blk_lt BG2.out
    have y2 : w2.cell? ⟨w.heap.size, 2, none⟩ = some (.slice A n c) := cellsAt BG2.out 2
    clear hn2
    go_wp2_with fail
    refine (HCO.out _ RW2.out (by rw [← HN.out]; exact HN2.out) _ BG2.out).mono ?_
    rintro e w3 ⟨rfl, hb3⟩
    have B3 := Lib.hid (bThen B2.out hb3)
    clear hb3
    go_wp2_with fail
    go_ret
    refine ⟨?_, B3.out⟩
    rw [HQ2.out, decide_eq_true h1, decide_eq_true h2, decide_eq_true h3, decide_eq_true h4]
    simp
end Go.Proofs.Ytlboehpgpbchhaa
