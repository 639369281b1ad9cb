/-
  WALKS of layer 10: Set and Idle of the program.
-/
import Derived.Test.YtdanfeldbdooeaaMarkW12
set_option linter.unusedVariables false
set_option linter.unusedSimpArgs false
namespace Go.Proofs.Ytdanfeldbdooeaa
open Go.RowKit

theorem own_upd {W : World} {base b3 n q3 : Nat} {li : List Inp} (h : W.ownsRow base 45 2 (.slice (some ⟨b3, 0, none⟩) n q3) n (li.flatMap Inp.cs)) {i : Nat} {x : Inp} (hx : li[i]? = some x) (m : Int) (d : Bool) :
    ((W.setCell ⟨b3, i * 2, none⟩ (.int .i64 m)).setCell ⟨b3, i * 2 + 1, none⟩ (.bool d)).ownsRow base 45 2 (.slice (some ⟨b3, 0, none⟩) n q3) n ((li.set i ⟨m, d⟩).flatMap Inp.cs) := by
  have h1 := (h.stored (i * 2 + 0) (.int .i64 m)).1
  rw [flat_set Inp.cs_len (x' := ⟨m, x.idle⟩) hx (by decide) rfl] at h1
  have h2 := (h1.stored (i * 2 + 1) (.bool d)).1
  have hx2 : (li.set i ⟨m, x.idle⟩)[i]? = some ⟨m, x.idle⟩ := by rw [List.getElem?_set_self (List.getElem?_eq_some_iff.1 hx).1]
  rw [flat_set Inp.cs_len (x' := ⟨m, d⟩) hx2 (by decide) rfl, List.set_set] at h2
  exact h2
theorem own_upd1 {W : World} {base b3 n q3 : Nat} {li : List Inp} (h : W.ownsRow base 45 2 (.slice (some ⟨b3, 0, none⟩) n q3) n (li.flatMap Inp.cs)) {i : Nat} {x : Inp} (hx : li[i]? = some x) (d : Bool) :
    (W.setCell ⟨b3, i * 2 + 1, none⟩ (.bool d)).ownsRow base 45 2 (.slice (some ⟨b3, 0, none⟩) n q3) n ((li.set i ⟨x.mark, d⟩).flatMap Inp.cs) := by
  have h2 := (h.stored (i * 2 + 1) (.bool d)).1
  rw [flat_set Inp.cs_len (x' := ⟨x.mark, d⟩) hx (by decide) rfl] at h2
  exact h2
theorem ownM_ne {W : World} {base base' : Nat} {e e' : TypeId} {size size' n n' cap : Nat} {v : Value} {xs xs' : List Value} {g : Nat} (h : W.ownsRow base e size v n xs) (h' : W.ownsRow base' e' size' (.slice (some ⟨g, 0, none⟩) n' cap) n' xs') (hne : e ≠ e') : v.ownBlock ≠ some g := by
  rcases h.2 with ⟨rfl, -⟩ | ⟨b, c, cur, rfl, -, hb, -⟩
  · simp [Value.ownBlock]
  · rcases h'.2 with ⟨h1, -⟩ | ⟨b', c', cur', h1, -, hb', -⟩
    · simp at h1
    · simp only [Value.slice.injEq, Option.some.injEq, Addr.mk.injEq, and_true, true_and] at h1
      obtain ⟨rfl, -⟩ := h1
      simp only [Value.ownBlock, ne_eq, Option.some.injEq]
      rintro rfl
      rw [hb] at hb'
      injection hb' with hb'
      injection hb' with _ h2
      exact hne h2
theorem own_away {W : World} {base : Nat} {e : TypeId} {size n : Nat} {v : Value} {xs : List Value} (h : W.ownsRow base e size v n xs) {g : Nat} (hne : v.ownBlock ≠ some g) (j : Nat) (u : Value) : (W.setCell ⟨g, j, none⟩ u).ownsRow base e size v n xs :=
  h.kept (grown_set W ⟨g, j, none⟩ u) (.inr hne)
/-- What a call makes of marks, and its errno. -/
def MkTo (li : List Inp) (lh : List Hld) (o er : Int) (w : World) (e : Ending) (w' : World) : Prop :=
  ∃ vi vh, e = .returned (.tuple #[.agg #[vi, vh, .int .i64 o], .int .i64 er]) ∧ Row Inp.cs 2 w' vi li ∧ Row Hld.cs 2 w' vh lh ∧ Below w.heap.size w w'

set_option maxHeartbeats 2000000 in
set_option maxRecDepth 100000 in
theorem set_no (li : List Inp) (lh : List Hld) (o i t : Int) (v : Value) (w : World) (h : MarksAt w v li lh o) (hr : (rightM li lh o && (decide (0 ≤ i) && decide (i < li.length))) = false) :
    Calls Try.prog 18 #[v, .int .i64 i, .int .i64 t] w (MkTo [] [] 0 1 w) := by
  have HM := Lib.hid h
  obtain ⟨vi, vh, rfl, -⟩ := h
  have HR := Lib.hid (fun W (hm : MarksAt W (.agg #[vi, vh, .int .i64 o]) li lh o) => input_any li lh o i _ W hm false hr)
  clear hr
  go_enter Try.func18, Try.ntmps18
  go_wp2_with fail
  refine (HR.out _ (HM.out.below (bel_alloc (bel_alloc (Below.refl _ _) _) _))).mono ?_
  rintro e w1 ⟨rfl, hb⟩
  have hK := (hb.block (w.heap.size + 1) (by simp)).trans (heap_at _ _ _ (by simp))
  have BB := Lib.hid (belA (bel_alloc (Below.refl _ w) _) hb)
  have z0 := cellsAt hK 0
  have z1 := cellsAt hK 1
  have z2 := cellsAt hK 2
  have y0 := frozAt hK 0
  have y1 := frozAt hK 1
  have y2 := frozAt hK 2
  simp at z0 z1 z2
  clear hK hb
  go_wp2_with fail
  exact bodyPost_ret (v := .tuple #[.agg #[.slice none 0 0, .slice none 0 0, .int .i64 0], .int .i64 1]) (by simp [results, Try.results18, go_sem, z0, z1, z2]) rfl ⟨_, _, rfl, Row.none_, Row.none_, ((BB.out.setCell (p := ⟨w.heap.size + 1, 0, none⟩) (Nat.le_succ _) _).setCell (p := ⟨w.heap.size + 1, 1, none⟩) (Nat.le_succ _) _).setCell (p := ⟨w.heap.size + 1, 2, none⟩) (Nat.le_succ _) _⟩

set_option maxHeartbeats 2000000 in
set_option maxRecDepth 100000 in
theorem idle_no (li : List Inp) (lh : List Hld) (o i : Int) (v : Value) (w : World) (h : MarksAt w v li lh o) (hr : (rightM li lh o && (decide (0 ≤ i) && decide (i < li.length))) = false) :
    Calls Try.prog 19 #[v, .int .i64 i] w (MkTo [] [] 0 1 w) := by
  have HM := Lib.hid h
  obtain ⟨vi, vh, rfl, -⟩ := h
  have HR := Lib.hid (fun W (hm : MarksAt W (.agg #[vi, vh, .int .i64 o]) li lh o) => input_any li lh o i _ W hm false hr)
  clear hr
  go_enter Try.func19, Try.ntmps19
  go_wp2_with fail
  refine (HR.out _ (HM.out.below (bel_alloc (bel_alloc (Below.refl _ _) _) _))).mono ?_
  rintro e w1 ⟨rfl, hb⟩
  have hK := (hb.block (w.heap.size + 1) (by simp)).trans (heap_at _ _ _ (by simp))
  have BB := Lib.hid (belA (bel_alloc (Below.refl _ w) _) hb)
  have z0 := cellsAt hK 0
  have z1 := cellsAt hK 1
  have z2 := cellsAt hK 2
  have y0 := frozAt hK 0
  have y1 := frozAt hK 1
  have y2 := frozAt hK 2
  simp at z0 z1 z2
  clear hK hb
  go_wp2_with fail
  exact bodyPost_ret (v := .tuple #[.agg #[.slice none 0 0, .slice none 0 0, .int .i64 0], .int .i64 1]) (by simp [results, Try.results19, go_sem, z0, z1, z2]) rfl ⟨_, _, rfl, Row.none_, Row.none_, ((BB.out.setCell (p := ⟨w.heap.size + 1, 0, none⟩) (Nat.le_succ _) _).setCell (p := ⟨w.heap.size + 1, 1, none⟩) (Nat.le_succ _) _).setCell (p := ⟨w.heap.size + 1, 2, none⟩) (Nat.le_succ _) _⟩

set_option maxHeartbeats 4000000 in
set_option maxRecDepth 100000 in
theorem set_yes (li : List Inp) (lh : List Hld) (o t : Int) (i : Nat) (x : Inp) (hx : li[i]? = some x) (v : Value) (w : World) (h : MarksAt w v li lh o) (hr : rightM li lh o = true) (l1 : li.length ≤ 1000000) (l2 : lh.length ≤ 1000000) :
    Calls Try.prog 18 #[v, .int .i64 i, .int .i64 t] w (MkTo (li.set i ⟨max x.mark (clampT t), false⟩) lh o 0 w) := by
  have HM := Lib.hid h
  obtain ⟨vi, vh, rfl, r1, r2, -⟩ := h
  have R1 := Lib.hid r1
  have R2 := Lib.hid r2
  have hi := (List.getElem?_eq_some_iff.1 hx).1
  have HX := Lib.hid hx
  have HR := Lib.hid (fun W (hm : MarksAt W (.agg #[vi, vh, .int .i64 o]) li lh o) => input_any li lh o i _ W hm true (by rw [hr]; simp; exact hi))
  have HOW := Lib.hid (fun W (h1 : Row Inp.cs 2 W vi li) (h2 : Row Hld.cs 2 W vh lh) => own_any li lh o vi vh W h1 h2 l1 l2)
  obtain ⟨A1, q1, rfl, -⟩ := r1
  obtain ⟨A2, q2, rfl, -⟩ := r2
  obtain ⟨n, hn⟩ : ∃ n, li.length = n := ⟨_, rfl⟩
  rw [hn] at hi l1 HM R1 HR HOW ⊢
  have Hn := Lib.hid hn
  clear hr hx hn
  go_enter Try.func18, Try.ntmps18
  go_wp2_with fail
  refine (HR.out _ (HM.out.below (bel_alloc (bel_alloc (Below.refl _ _) _) _))).mono ?_
  rintro e w1 ⟨rfl, hb⟩
  have K0 := Lib.hid ((hb.block w.heap.size (by simp; omega)).trans ((Below.heap_alloc _ _ _ (by simp)).trans (heap_alloc_new w _)))
  have K1 := Lib.hid ((hb.block (w.heap.size + 1) (by simp)).trans (heap_at _ _ _ (by simp)))
  have BB := Lib.hid (belA (bel_alloc (Below.refl _ w) _) hb)
  have Q1 := Lib.hid (R1.out.below BB.out)
  have Q2 := Lib.hid (R2.out.below BB.out)
  have c0 := cellsAt K0.out 0
  have c1 := cellsAt K0.out 1
  have c2 := cellsAt K0.out 2
  have f0 := frozAt K0.out 0
  have f1 := frozAt K0.out 1
  have f2 := frozAt K0.out 2
  simp at c0 c1 c2
  clear hb
  go_wp2_with fail
  refine (HOW.out _ Q1.out Q2.out).mono ?_
  rintro e w3 ⟨v3, v4, rfl, hO3, hO4, hb⟩
  have K0' := Lib.hid ((hb.block _ (blk_lt K0.out)).trans K0.out)
  have K1' := Lib.hid ((hb.block _ (blk_lt K1.out)).trans K1.out)
  have BB2 := Lib.hid (bThen BB.out hb)
  have hs := hb.size
  have hl1 := blk_lt K1.out
  have O3 := Lib.hid (own_base hO3 (show w.heap.size + 2 ≤ w1.heap.size by omega))
  have O4 := Lib.hid (own_base hO4 (show w.heap.size + 2 ≤ w1.heap.size by omega))
  obtain ⟨b3, q3, rfl, -, -, hc3⟩ := own_form hO3 (by rw [Hn.out]; omega)
  obtain ⟨A4, q4, rfl⟩ := own_slice hO4
  rw [Hn.out] at O3 hc3 ⊢
  clear hb c0 c1 c2 f0 f1 f2 K0 K1 BB Q1 Q2 hO3 hO4 hs hl1
  have c0 := cellsAt K0'.out 0
  have c1 := cellsAt K0'.out 1
  have c2 := cellsAt K0'.out 2
  have f0 := frozAt K0'.out 0
  have f1 := frozAt K0'.out 1
  have f2 := frozAt K0'.out 2
  simp at c0 c1 c2
  go_upto_region 4 with fail
  obtain ⟨W5, hW5⟩ : ∃ W5, W5 = ((w3.setCell ⟨w.heap.size, 0, none⟩ (.slice (some ⟨b3, 0, none⟩) n q3)).setCell ⟨w.heap.size, 1, none⟩ (.slice A4 lh.length q4)).setCell ⟨w.heap.size, 2, none⟩ (.int .i64 o) := ⟨_, rfl⟩
  rw [← hW5]
  have P0 := Lib.hid (show W5.heap[w.heap.size]? = some (.cells #[.slice (some ⟨b3, 0, none⟩) n q3, .slice A4 lh.length q4, .int .i64 o] 25 (0, 0)) by rw [hW5]; exact blk_set (blk_set (blk_set K0'.out 0 _) 1 _) 2 _)
  have P1 := Lib.hid (show W5.heap[w.heap.size + 1]? = some (.cells #[.slice none 0 0, .slice none 0 0, .int .i64 0] 25 (0, 0)) by rw [hW5]; exact (Below.heap_setCell _ _ _ _ (by simp)).trans ((Below.heap_setCell _ _ _ _ (by simp)).trans ((Below.heap_setCell _ _ _ _ (by simp)).trans K1'.out)))
  have O3 := Lib.hid (show W5.ownsRow (w.heap.size + 2) 45 2 (.slice (some ⟨b3, 0, none⟩) n q3) n (li.flatMap Inp.cs) by rw [hW5]; exact own_set (own_set (own_set O3.out (by simp) _) (by simp) _) (by simp) _)
  have O4 := Lib.hid (show W5.ownsRow (w.heap.size + 2) 47 2 (.slice A4 lh.length q4) lh.length (lh.flatMap Hld.cs) by rw [hW5]; exact own_set (own_set (own_set O4.out (by simp) _) (by simp) _) (by simp) _)
  have BB := Lib.hid (show Below w.heap.size w W5 by rw [hW5]; exact ((BB2.out.setCell (p := ⟨w.heap.size, 0, none⟩) (Nat.le_refl _) _).setCell (p := ⟨w.heap.size, 1, none⟩) (Nat.le_refl _) _).setCell (p := ⟨w.heap.size, 2, none⟩) (Nat.le_refl _) _)
  clear hW5 K0' K1' BB2 c0 c1 c2 f0 f1 f2
  have c0 := cellsAt P0.out 0
  have c1 := cellsAt P0.out 1
  have c2 := cellsAt P0.out 2
  have z0 := cellsAt P1.out 0
  have z1 := cellsAt P1.out 1
  have z2 := cellsAt P1.out 2
  have y0 := frozAt P1.out 0
  have y1 := frozAt P1.out 1
  have y2 := frozAt P1.out 2
  have e0 := O3.out.cellAt (i * 2 + 0) (by omega)
  have e1 := O3.out.cellAt (i * 2 + 1) (by omega)
  rw [flat_at Inp.cs_len HX.out rfl] at e0 e1
  have u0 := O3.out.frozenAt (i * 2 + 0)
  have u1 := O3.out.frozenAt (i * 2 + 1)
  have hb3 := (O3.out.lt b3 rfl).1
  have n0 : b3 ≠ w.heap.size := by omega
  have n1 : w.heap.size ≠ b3 := by omega
  have n2 : b3 ≠ w.heap.size + 1 := by omega
  have n3 : w.heap.size + 1 ≠ b3 := by omega
  obtain ⟨xm, xi⟩ := x
  simp [Nat.add_zero] at c0 c1 c2 z0 z1 z2 e0 e1 u0 u1
  have HNE := Lib.hid (ownM_ne O4.out O3.out (by decide))
  go_region_with (first | (go_at_call 48; refine (clamp_any _ _).mono ?_; rintro e w9 ⟨rfl, rfl⟩))
  all_goals go_wp2_with fail
  all_goals
    refine bodyPost_ret (v := .tuple #[.agg #[.slice (some ⟨b3, 0, none⟩) n q3, .slice A4 lh.length q4, .int .i64 o], .int .i64 0]) (by simp [results, Try.results18, go_sem, z0, z1, z2]) rfl ⟨_, _, rfl, Row.of_own (base := w.heap.size + 2) (e := 45) (n := n) Inp.cs_len ?ra (by simp [Hn.out]), Row.of_own (base := w.heap.size + 2) (e := 47) Hld.cs_len ?rb rfl, ?rc⟩
    case ra => repeat' (first | (with_reducible exact own_upd O3.out HX.out _ _) | (with_reducible exact own_upd (own_drew O3.out) HX.out _ _) | (with_reducible refine own_drew ?_) | (with_reducible refine own_set ?_ (by simp) _))
    case rb => repeat' (first | (with_reducible exact O4.out) | (with_reducible refine own_drew ?_) | (with_reducible refine own_away ?_ HNE.out _ _) | (with_reducible refine own_set ?_ (by simp) _))
    case rc => repeat' (first | (with_reducible exact BB.out) | (with_reducible refine Below.drew ?_) | (with_reducible refine Below.setCell ?_ ?_ _) | (show w.heap.size ≤ b3; omega) | (simp; done))

set_option maxHeartbeats 4000000 in
set_option maxRecDepth 100000 in
theorem idle_yes (li : List Inp) (lh : List Hld) (o : Int) (i : Nat) (x : Inp) (hx : li[i]? = some x) (v : Value) (w : World) (h : MarksAt w v li lh o) (hr : rightM li lh o = true) (l1 : li.length ≤ 1000000) (l2 : lh.length ≤ 1000000) :
    Calls Try.prog 19 #[v, .int .i64 i] w (MkTo (li.set i ⟨x.mark, true⟩) lh o 0 w) := by
  have HM := Lib.hid h
  obtain ⟨vi, vh, rfl, r1, r2, -⟩ := h
  have R1 := Lib.hid r1
  have R2 := Lib.hid r2
  have hi := (List.getElem?_eq_some_iff.1 hx).1
  have HX := Lib.hid hx
  have HR := Lib.hid (fun W (hm : MarksAt W (.agg #[vi, vh, .int .i64 o]) li lh o) => input_any li lh o i _ W hm true (by rw [hr]; simp; exact hi))
  have HOW := Lib.hid (fun W (h1 : Row Inp.cs 2 W vi li) (h2 : Row Hld.cs 2 W vh lh) => own_any li lh o vi vh W h1 h2 l1 l2)
  obtain ⟨A1, q1, rfl, -⟩ := r1
  obtain ⟨A2, q2, rfl, -⟩ := r2
  obtain ⟨n, hn⟩ : ∃ n, li.length = n := ⟨_, rfl⟩
  rw [hn] at hi l1 HM R1 HR HOW ⊢
  have Hn := Lib.hid hn
  clear hr hx hn
  go_enter Try.func19, Try.ntmps19
  go_wp2_with fail
  refine (HR.out _ (HM.out.below (bel_alloc (bel_alloc (Below.refl _ _) _) _))).mono ?_
  rintro e w1 ⟨rfl, hb⟩
  have K0 := Lib.hid ((hb.block w.heap.size (by simp; omega)).trans ((Below.heap_alloc _ _ _ (by simp)).trans (heap_alloc_new w _)))
  have K1 := Lib.hid ((hb.block (w.heap.size + 1) (by simp)).trans (heap_at _ _ _ (by simp)))
  have BB := Lib.hid (belA (bel_alloc (Below.refl _ w) _) hb)
  have Q1 := Lib.hid (R1.out.below BB.out)
  have Q2 := Lib.hid (R2.out.below BB.out)
  have c0 := cellsAt K0.out 0
  have c1 := cellsAt K0.out 1
  have c2 := cellsAt K0.out 2
  have f0 := frozAt K0.out 0
  have f1 := frozAt K0.out 1
  have f2 := frozAt K0.out 2
  simp at c0 c1 c2
  clear hb
  go_wp2_with fail
  refine (HOW.out _ Q1.out Q2.out).mono ?_
  rintro e w3 ⟨v3, v4, rfl, hO3, hO4, hb⟩
  have K0' := Lib.hid ((hb.block _ (blk_lt K0.out)).trans K0.out)
  have K1' := Lib.hid ((hb.block _ (blk_lt K1.out)).trans K1.out)
  have BB2 := Lib.hid (bThen BB.out hb)
  have hs := hb.size
  have hl1 := blk_lt K1.out
  have O3 := Lib.hid (own_base hO3 (show w.heap.size + 2 ≤ w1.heap.size by omega))
  have O4 := Lib.hid (own_base hO4 (show w.heap.size + 2 ≤ w1.heap.size by omega))
  obtain ⟨b3, q3, rfl, -, -, hc3⟩ := own_form hO3 (by rw [Hn.out]; omega)
  obtain ⟨A4, q4, rfl⟩ := own_slice hO4
  rw [Hn.out] at O3 hc3 ⊢
  clear hb c0 c1 c2 f0 f1 f2 K0 K1 BB Q1 Q2 hO3 hO4 hs hl1
  have c0 := cellsAt K0'.out 0
  have c1 := cellsAt K0'.out 1
  have c2 := cellsAt K0'.out 2
  have f0 := frozAt K0'.out 0
  have f1 := frozAt K0'.out 1
  have f2 := frozAt K0'.out 2
  simp at c0 c1 c2
  go_upto_region 4 with fail
  obtain ⟨W5, hW5⟩ : ∃ W5, W5 = ((w3.setCell ⟨w.heap.size, 0, none⟩ (.slice (some ⟨b3, 0, none⟩) n q3)).setCell ⟨w.heap.size, 1, none⟩ (.slice A4 lh.length q4)).setCell ⟨w.heap.size, 2, none⟩ (.int .i64 o) := ⟨_, rfl⟩
  rw [← hW5]
  have P0 := Lib.hid (show W5.heap[w.heap.size]? = some (.cells #[.slice (some ⟨b3, 0, none⟩) n q3, .slice A4 lh.length q4, .int .i64 o] 25 (0, 0)) by rw [hW5]; exact blk_set (blk_set (blk_set K0'.out 0 _) 1 _) 2 _)
  have P1 := Lib.hid (show W5.heap[w.heap.size + 1]? = some (.cells #[.slice none 0 0, .slice none 0 0, .int .i64 0] 25 (0, 0)) by rw [hW5]; exact (Below.heap_setCell _ _ _ _ (by simp)).trans ((Below.heap_setCell _ _ _ _ (by simp)).trans ((Below.heap_setCell _ _ _ _ (by simp)).trans K1'.out)))
  have O3 := Lib.hid (show W5.ownsRow (w.heap.size + 2) 45 2 (.slice (some ⟨b3, 0, none⟩) n q3) n (li.flatMap Inp.cs) by rw [hW5]; exact own_set (own_set (own_set O3.out (by simp) _) (by simp) _) (by simp) _)
  have O4 := Lib.hid (show W5.ownsRow (w.heap.size + 2) 47 2 (.slice A4 lh.length q4) lh.length (lh.flatMap Hld.cs) by rw [hW5]; exact own_set (own_set (own_set O4.out (by simp) _) (by simp) _) (by simp) _)
  have BB := Lib.hid (show Below w.heap.size w W5 by rw [hW5]; exact ((BB2.out.setCell (p := ⟨w.heap.size, 0, none⟩) (Nat.le_refl _) _).setCell (p := ⟨w.heap.size, 1, none⟩) (Nat.le_refl _) _).setCell (p := ⟨w.heap.size, 2, none⟩) (Nat.le_refl _) _)
  clear hW5 K0' K1' BB2 c0 c1 c2 f0 f1 f2
  have c0 := cellsAt P0.out 0
  have c1 := cellsAt P0.out 1
  have c2 := cellsAt P0.out 2
  have z0 := cellsAt P1.out 0
  have z1 := cellsAt P1.out 1
  have z2 := cellsAt P1.out 2
  have y0 := frozAt P1.out 0
  have y1 := frozAt P1.out 1
  have y2 := frozAt P1.out 2
  have e0 := O3.out.cellAt (i * 2 + 0) (by omega)
  have e1 := O3.out.cellAt (i * 2 + 1) (by omega)
  rw [flat_at Inp.cs_len HX.out rfl] at e0 e1
  have u0 := O3.out.frozenAt (i * 2 + 0)
  have u1 := O3.out.frozenAt (i * 2 + 1)
  have hb3 := (O3.out.lt b3 rfl).1
  have n0 : b3 ≠ w.heap.size := by omega
  have n1 : w.heap.size ≠ b3 := by omega
  have n2 : b3 ≠ w.heap.size + 1 := by omega
  have n3 : w.heap.size + 1 ≠ b3 := by omega
  obtain ⟨xm, xi⟩ := x
  simp [Nat.add_zero] at c0 c1 c2 z0 z1 z2 e0 e1 u0 u1
  have HNE := Lib.hid (ownM_ne O4.out O3.out (by decide))
  go_wp2_with fail
  · refine bodyPost_ret (v := .tuple #[.agg #[.slice (some ⟨b3, 0, none⟩) n q3, .slice A4 lh.length q4, .int .i64 o], .int .i64 0]) (by simp [results, Try.results19, go_sem, z0, z1, z2]) rfl ⟨_, _, rfl, Row.of_own (base := w.heap.size + 2) (e := 45) (n := n) Inp.cs_len ?ra (by simp [Hn.out]), Row.of_own (base := w.heap.size + 2) (e := 47) Hld.cs_len ?rb rfl, ?rc⟩
    case ra => repeat' (first | (with_reducible exact own_upd1 O3.out HX.out true) | (with_reducible refine own_drew ?_) | (with_reducible refine own_set ?_ (by simp) _))
    case rb => repeat' (first | (with_reducible exact O4.out) | (with_reducible refine own_drew ?_) | (with_reducible refine own_away ?_ HNE.out _ _) | (with_reducible refine own_set ?_ (by simp) _))
    case rc => repeat' (first | (with_reducible exact BB.out) | (with_reducible refine Below.drew ?_) | (with_reducible refine Below.setCell ?_ ?_ _) | (show w.heap.size ≤ b3; omega) | (simp; done))
end Go.Proofs.Ytdanfeldbdooeaa
