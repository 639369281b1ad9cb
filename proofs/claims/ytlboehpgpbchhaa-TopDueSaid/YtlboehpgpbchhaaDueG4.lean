/-
  WALKS of the law TopDue: time goes on in a group.
-/
import Derived.Test.YtlboehpgpbchhaaDueG3
set_option linter.unusedVariables false
set_option linter.unusedSimpArgs false
namespace Go.Proofs.Ytlboehpgpbchhaa
open Go.RowKit

set_option maxRecDepth 100000 in
theorem gjob_any (j : Jb) (w : World) : Calls Try.prog 27 #[.agg j.cs] w fun e w' => e = .returned (.bool (wR j.s j.d && fR j.f)) ∧ Below w.heap.size w w' := by
  have HW := Lib.hid (fun a b w => wright_any a b w)
  have HF := Lib.hid (fun a w => fright_any a w)
  obtain ⟨jg, js, jd, jf, ju, jl, jy, ji⟩ := j
  unfold Jb.cs
  simp only
  obtain ⟨a, ha⟩ : ∃ a, wR js jd = a := ⟨_, rfl⟩
  obtain ⟨b, hb⟩ : ∃ b, fR jf = b := ⟨_, rfl⟩
  have HA := Lib.hid ha
  have HB := Lib.hid hb
  clear ha hb
  cases a with
  | false =>
    go_enter Try.func27, Try.ntmps27
    go_wp2_with fail
    refine (HW.out _ _ _).mono ?_
    rintro e w2 ⟨rfl, rfl⟩
    rw [HA.out]
    go_wp2_with fail
    go_ret
    exact ⟨by rw [HA.out]; rfl, bel_alloc (Below.refl _ _) _⟩
  | true =>
    go_enter Try.func27, Try.ntmps27
    go_wp2_with fail
    refine (HW.out _ _ _).mono ?_
    rintro e w2 ⟨rfl, rfl⟩
    rw [HA.out]
    go_wp2_with fail
    refine (HF.out _ _).mono ?_
    rintro e w2 ⟨rfl, rfl⟩
    rw [HB.out]
    go_wp2_with fail
    go_ret
    exact ⟨by rw [HA.out, HB.out]; rfl, bel_alloc (Below.refl _ _) _⟩
/-- What Advance tells. -/
def AvTo (mx : Int) (l : List Pn) (w : World) (e : Ending) (w' : World) : Prop :=
  ∃ (k : Nat) (vg vr : Value) (qs : List (Pn × Int)), (∃ a b A2 n2 c2, vg = .agg #[.int .i64 a, .int .i64 b, .slice A2 n2 c2]) ∧ k ≤ l.length ∧ e = .returned (.tuple #[vg, vr, .int .i64 0]) ∧ w'.ownsRow w.heap.size 71 5 vr qs.length (qs.flatMap rsOf) ∧ qs.map Prod.fst = l.take k ∧ clB (min mx 1099511627776) (l.take k) = true ∧ (∀ x, l[k]? = some x → min mx 1099511627776 < x.hi) ∧ Below w.heap.size w w'
theorem gr_prD {no m : Int} {l : List Pn} (h : grR no m l = true) : 0 ≤ no ∧ no < 32 ∧ 0 ≤ m ∧ m ≤ 1099511627776 ∧ prB l = true ∧ l.length ≤ 2000 := by
  unfold grR at h
  simp only [Bool.and_eq_true, decide_eq_true_eq] at h
  obtain ⟨⟨⟨⟨⟨h1, h2⟩, h3⟩, h4⟩, h5⟩, -⟩ := h
  refine ⟨h1, h2, h3, h4, h5, ?_⟩
  unfold prB at h5
  simp only [Bool.and_eq_true, decide_eq_true_eq] at h5
  exact h5.1
theorem prB_take {l : List Pn} (h : prB l = true) (k : Nat) : prB (l.take k) = true := by
  unfold prB at h ⊢
  simp only [Bool.and_eq_true, decide_eq_true_eq, List.all_eq_true, List.mem_range] at h ⊢
  refine ⟨by rw [List.length_take]; omega, fun i hi => ?_⟩
  rw [List.length_take] at hi
  have h1 := h.2 i (by omega)
  have e : ∀ j, j < k → (l.take k)[j]! = l[j]! := fun j hj => by rw [List.getElem!_eq_getElem?_getD, List.getElem!_eq_getElem?_getD, List.getElem?_take_of_lt hj]
  unfold pokAt at h1 ⊢
  rw [e i (by omega)]
  by_cases h0 : i = 0
  · subst h0
    simpa using h1
  · rw [e (i - 1) (by omega)]
    exact h1
/-- What lies in Advance's own blocks. -/
structure AvAt (w : World) (jcs : Array Value) (no m : Int) (v : Value) (W : World) : Prop where
  jb : W.heap[w.heap.size]? = some (.cells jcs 46 (0, 0))
  gb : W.heap[w.heap.size + 1]? = some (.cells #[.int .i64 no, .int .i64 m, v] 49 (0, 0))
  rb : W.heap[w.heap.size + 1 + 1]? = some (.cells #[.int .i64 0, .int .i64 0, .slice none 0 0] 49 (0, 0))
  bel : Below w.heap.size w W
theorem AvAt.below {w W W' : World} {jcs : Array Value} {no m : Int} {v : Value} (h : AvAt w jcs no m v W) (hb : Below W.heap.size W W') : AvAt w jcs no m v W' := ⟨heap_below h.jb hb, heap_below h.gb hb, heap_below h.rb hb, bThen h.bel hb⟩
theorem AvAt.setm {w W : World} {jcs : Array Value} {no m : Int} {v : Value} (h : AvAt w jcs no m v W) (m' : Int) : AvAt w jcs no m' v (W.setCell ⟨w.heap.size + 1, 1, none⟩ (.int .i64 m')) := by
  have h1 := blk_set h.gb 1 (.int .i64 m')
  simp at h1
  exact ⟨(Below.heap_setCell _ _ _ _ (by simp)).trans h.jb, h1, (Below.heap_setCell _ _ _ _ (by simp)).trans h.rb, h.bel.setCell (p := ⟨w.heap.size + 1, 1, none⟩) (by simp) _⟩
theorem AvAt.setv {w W : World} {jcs : Array Value} {no m : Int} {v : Value} (h : AvAt w jcs no m v W) (v' : Value) : AvAt w jcs no m v' (W.setCell ⟨w.heap.size + 1, 2, none⟩ v') := by
  have h1 := blk_set h.gb 2 v'
  simp at h1
  exact ⟨(Below.heap_setCell _ _ _ _ (by simp)).trans h.jb, h1, (Below.heap_setCell _ _ _ _ (by simp)).trans h.rb, h.bel.setCell (p := ⟨w.heap.size + 1, 2, none⟩) (by simp) _⟩
theorem row_setP {W : World} {v : Value} {l : List Pn} (h : Row Pn.cs 6 W v l) {g : Nat} {cs : Array Value} {T : TypeId} (hg : W.heap[g]? = some (.cells cs T (0, 0))) (hc : cs.size ≤ 5) (k : Nat) (u : Value) : Row Pn.cs 6 (W.setCell ⟨g, k, none⟩ u) v l := by
  obtain ⟨A, c, e, hcc, h⟩ := h
  refine ⟨A, c, e, hcc, fun hl => ?_⟩
  obtain ⟨b, o, ha, hb, hx⟩ := h hl
  have hne : b ≠ g := by
    intro e2
    subst e2
    obtain ⟨x, hx0⟩ : ∃ x, l[0]? = some x := ⟨_, List.getElem?_eq_getElem hl⟩
    have h0 := hx 0 x 5 _ hx0 rfl
    rw [cellsAt hg] at h0
    have := (Array.getElem?_eq_some_iff.1 h0).1
    omega
  refine ⟨b, o, ha, by simpa [World.setCell] using hb, fun i x j u' h1 h2 => ?_⟩
  have h3 := hx i x j u' h1 h2
  rw [← h3]
  unfold World.cell?
  rw [show (W.setCell ⟨g, k, none⟩ u).heap[b]? = W.heap[b]? from Below.heap_setCell W ⟨g, k, none⟩ u b hne]
theorem rsOf_len5 (q : Pn × Int) : (rsOf q).length = 5 := rfl
set_option maxRecDepth 100000 in
set_option maxHeartbeats 4000000 in
theorem adv_any (j : Jb) (no m mx : Int) (l : List Pn) (v : Value) (w : World) (hv : Row Pn.cs 6 w v l) (hwf : ∀ p ∈ l, p.Wf) (hg : grR no m l = true) (hj : (wR j.s j.d && fR j.f) = true) (hmx : m < mx) :
    Calls Try.prog 31 #[.agg j.cs, .agg #[.int .i64 no, .int .i64 m, v], .int .i64 mx] w (AvTo mx l w) := by
  have HV := Lib.hid hv
  have hp := gr_prD hg
  have HG := Lib.hid (fun w h => gright_any no m l v w h (fun p hp => (hwf p hp).2.2.1) (by unfold maxLen; omega))
  rw [hg] at HG
  have HJ := Lib.hid (fun w => gjob_any j w)
  rw [hj] at HJ
  obtain ⟨mn, hmn⟩ : ∃ x, min mx 1099511627776 = x := ⟨_, rfl⟩
  have HMN := Lib.hid hmn
  have HDU := Lib.hid (fun W v' h => pdue_any mn l v' W h (fun p hp => (hwf p hp).2.2.1) hp.2.2.2.2.2 hp.2.2.2.2.1)
  have HWF := Lib.hid hwf
  have HPB := Lib.hid hp.2.2.2.2
  have hfr : fR j.f = true := by simp only [Bool.and_eq_true] at hj; exact hj.2
  have HFR := Lib.hid hfr
  obtain ⟨A, c, rfl, hc, -⟩ := hv
  obtain ⟨n, hn⟩ : ∃ n, l.length = n := ⟨_, rfl⟩
  have HN := Lib.hid hn
  rw [hn] at HV HG HPB ⊢
  have d0 : decide (mx ≤ m) = false := decide_eq_false (by omega)
  clear hn hc hp hwf hg hj hfr hmx
  obtain ⟨jg, js, jd, jf, ju, jl, jy, ji⟩ := j
  unfold Jb.cs at HJ ⊢
  simp only at HJ HFR ⊢
  go_enter Try.func31, Try.ntmps31
  go_wp2_with fail
  obtain ⟨W1, hW1⟩ : ∃ X, X = (((w.alloc (.cells #[.int .i64 jg, .int .i64 js, .int .i64 jd, .int .i64 jf, .int .i64 ju, .int .i64 jl, .int .i64 jy, .int .i64 ji] 46)).alloc (.cells #[.int .i64 no, .int .i64 m, .slice A n c] 49)).alloc (.cells #[.int .i64 0, .int .i64 0, .slice none 0 0] 49)) := ⟨_, rfl⟩
  rw [← hW1]
  have T1 := Lib.hid (show AvAt w #[.int .i64 jg, .int .i64 js, .int .i64 jd, .int .i64 jf, .int .i64 ju, .int .i64 jl, .int .i64 jy, .int .i64 ji] no m (.slice A n c) W1 by
    rw [hW1]
    exact ⟨heap_below (heap_below (heap_at w _ _ rfl) (bel_alloc (Below.refl _ _) _)) (bel_alloc (Below.refl _ _) _), heap_below (heap_at _ _ _ (by simp)) (bel_alloc (Below.refl _ _) _), heap_at _ _ _ (by simp), bel_alloc (bel_alloc (bel_alloc (Below.refl _ _) _) _) _⟩)
  clear hW1
  refine (HJ.out _).mono ?_
  rintro e w2 ⟨rfl, hb2⟩
  have T2 := Lib.hid (T1.out.below hb2)
  clear hb2 T1
  have z1 := blk_lt T2.out.gb
  have y0 := cellsAt T2.out.gb 0
  have y1 := cellsAt T2.out.gb 1
  have y2 := cellsAt T2.out.gb 2
  simp at y0 y1 y2
  go_wp2_with fail
  refine (HG.out _ (HV.out.below T2.out.bel)).mono ?_
  rintro e w3 ⟨rfl, hb3⟩
  have T3 := Lib.hid (T2.out.below hb3)
  clear hb3 T2 z1 y0 y1 y2
  have z1 := blk_lt T3.out.gb
  have y0 := cellsAt T3.out.gb 0
  have y1 := cellsAt T3.out.gb 1
  have y2 := cellsAt T3.out.gb 2
  have f1 := frozAt T3.out.gb
  simp at y0 y1 y2
  go_wp2_with fail
  have T4 := Lib.hid (T3.out.setm mn)
  clear T3 z1 y0 y1 y2 f1
  obtain ⟨W4, hW4⟩ : ∃ X, X = w3.setCell ⟨w.heap.size + 1, 1, none⟩ (.int .i64 mn) := ⟨_, rfl⟩
  rw [← hW4] at T4 ⊢
  clear hW4
  refine (HDU.out _ _ (HV.out.below T4.out.bel)).mono ?_
  rintro e w5 ⟨k, v1, v2, hk, rfl, hr1, hr2, hcl, hop, hb5⟩
  have T5 := Lib.hid (T4.out.below hb5)
  have R1 := Lib.hid hr1
  have HCL := Lib.hid hcl
  have HOP := Lib.hid hop
  have HK := Lib.hid hk
  obtain ⟨A1, c1, e1, -, -⟩ := hr1
  obtain ⟨A2, c2, e2, -, -⟩ := hr2
  obtain ⟨n1, hn1⟩ : ∃ x, (l.take k).length = x := ⟨_, rfl⟩
  obtain ⟨n2, hn2⟩ : ∃ x, (l.drop k).length = x := ⟨_, rfl⟩
  have HN1 := Lib.hid hn1
  rw [hn1] at e1
  rw [hn2] at e2
  subst e1 e2
  clear hb5 T4 hk hcl hop hn1 hn2
  have z1 := blk_lt T5.out.gb
  have f1 := frozAt T5.out.gb
  have y2 := cellsAt T5.out.gb 2
  simp at y2
  go_upto_region 10 with fail
  have T6 := Lib.hid (T5.out.setv (.slice A2 n2 c2))
  have R6 := Lib.hid (show Row Pn.cs 6 (w5.setCell ⟨w.heap.size + 1, 2, none⟩ (.slice A2 n2 c2)) (.slice A1 n1 c1) (l.take k) from row_setP R1.out T5.out.gb (by simp) 2 _)
  clear z1 f1 y2
  obtain ⟨W6, hW6⟩ : ∃ X, X = w5.setCell ⟨w.heap.size + 1, 2, none⟩ (.slice A2 n2 c2) := ⟨_, rfl⟩
  rw [← hW6] at T6 R6 ⊢
  clear hW6
  have HRS := Lib.hid (fun W (h : Row Pn.cs 6 W (.slice A1 n1 c1) (l.take k)) => results_any jf (l.take k) _ W h (fun q hq => HWF.out q (List.mem_of_mem_take hq)) (by rw [List.length_take]; have := HPB.out.2; have := HN.out; unfold maxLen; omega))
  have z0 := blk_lt T6.out.jb
  have j3 := cellsAt T6.out.jb 3
  have z1 := blk_lt T6.out.gb
  have y0 := cellsAt T6.out.gb 0
  have y1 := cellsAt T6.out.gb 1
  have y2 := cellsAt T6.out.gb 2
  simp at j3 y0 y1 y2
  go_region_law (go_simp; go_at_call 55; refine (HRS.out W6.drew R6.out).mono ?_; rintro e w7 ⟨vr, qs, rfl, hoq, hqi, hqs, hb7⟩; obtain ⟨Ar, cr, rfl⟩ := own_slice hoq; have T7 := T6.out.below (bUndrew hb7); have z7 := blk_lt T7.rb; have q0 := cellsAt T7.rb 0; have q1 := cellsAt T7.rb 1; have q2 := cellsAt T7.rb 2; have q3 := frozAt T7.rb; have x0 := cellsAt T7.gb 0; have x1 := cellsAt T7.gb 1; have x2 := cellsAt T7.gb 2; simp at q0 q1 q2 x0 x1 x2)
  all_goals
    have e1 := blk_set T7.rb 0 (.int .i64 no)
    have e2 := blk_set e1 1 (.int .i64 mn)
    have e3 := blk_set e2 2 (.slice A2 n2 c2)
    simp at e3
    have hlt : w.heap.size + 1 + 1 < W6.drew.heap.size := blk_lt T6.out.rb
    have ho := own_set (own_set (own_set hoq (p := ⟨w.heap.size + 1 + 1, 0, none⟩) hlt (.int .i64 no)) (p := ⟨w.heap.size + 1 + 1, 1, none⟩) hlt (.int .i64 mn)) (p := ⟨w.heap.size + 1 + 1, 2, none⟩) hlt (.slice A2 n2 c2)
    have HRW := Lib.hid (own_base ho (show w.heap.size ≤ W6.drew.heap.size from T6.out.bel.size))
    have hbl := ((T7.bel.setCell (p := ⟨w.heap.size + 1 + 1, 0, none⟩) (by simp; omega) (.int .i64 no)).setCell (p := ⟨w.heap.size + 1 + 1, 1, none⟩) (by simp; omega) (.int .i64 mn)).setCell (p := ⟨w.heap.size + 1 + 1, 2, none⟩) (by simp; omega) (.slice A2 n2 c2)
    have HBL := Lib.hid hbl
    rw [if_pos ⟨prB_take HPB.out.1 k, HFR.out⟩] at hqs
    have HQS := Lib.hid hqs
    clear e1 e2 ho hbl hqs hoq q0 q1 q2 q3 x0 x1 x2 y0 y1 y2 j3
    have g0 := cellsAt e3 0
    have g1 := cellsAt e3 1
    have g2 := cellsAt e3 2
    simp at g0 g1 g2
    go_wp2_with fail
    refine bodyPost_ret (v := .tuple #[.agg #[.int .i64 no, .int .i64 mn, .slice A2 n2 c2], .slice Ar qs.length cr, .int .i64 0]) (by simp [results, Try.results31, go_sem, g0, g1, g2]) rfl ?_
    exact ⟨k, _, _, qs, ⟨_, _, _, _, _, rfl⟩, HK.out, rfl, HRW.out, HQS.out, by rw [HMN.out]; exact HCL.out, by rw [HMN.out]; exact HOP.out, HBL.out⟩
end Go.Proofs.Ytlboehpgpbchhaa
