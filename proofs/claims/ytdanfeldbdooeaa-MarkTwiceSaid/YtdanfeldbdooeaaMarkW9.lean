/-
  WALKS of layer 10: first, Tell.
-/
import Derived.Test.YtdanfeldbdooeaaMarkW8
import Derived.Test.YtdanfeldbdooeaaMarkW2
import Derived.Laws.AppendOwnNone
import Derived.Deep.DeepCutAuto
set_option linter.unusedVariables false
set_option linter.unusedSimpArgs false
namespace Go.Proofs.Ytdanfeldbdooeaa
open Go.RowKit

theorem own_drew {w : World} {base : Nat} {e : TypeId} {size : Nat} {v : Value} {n : Nat} {xs : List Value} (h : w.ownsRow base e size v n xs) : w.drew.ownsRow base e size v n xs := h
def tellL (li : List Inp) (lh : List Hld) : List Int := backI li ++ backH lh
theorem Tm.flat_one {l : List Int} : ∀ u ∈ l.flatMap Tm.cs, u.oneCell' = true := by
  intro u hu
  obtain ⟨x, -, hx⟩ := List.mem_flatMap.1 hu
  simp [Tm.cs] at hx
  subst hx; rfl
def FirstTo (l : List Int) (w : World) (e : Ending) (w' : World) : Prop := e = .returned (.tuple #[.int .i64 (firstT l), .bool (decide (0 < l.length))]) ∧ Below w.heap.size w w'
set_option maxHeartbeats 2000000 in
set_option maxRecDepth 100000 in
theorem first_any (li : List Inp) (lh : List Hld) (vi vh : Value) (w : World) (h1 : Row Inp.cs 2 w vi li) (h2 : Row Hld.cs 2 w vh lh) (l1 : li.length ≤ 1000000) (l2 : lh.length ≤ 1000000) :
    Calls Try.prog 52 #[vi, vh, .func (.func 53) #[] #[], .func (.func 54) #[] #[]] w (FirstTo (tellL li lh) w) := by
  obtain ⟨i0, hi, hz0, hz1, hz2⟩ := info_parts info_i64
  have HI := Lib.hid hi
  have HZ0 := Lib.hid hz0
  have HZ1 := Lib.hid hz1
  have HZ2 := Lib.hid hz2
  clear hi hz0 hz1 hz2
  have C1 := Lib.hid (backI_any li vi w h1 l1)
  have C2 := Lib.hid (fun W (h : Row Hld.cs 2 W vh lh) => backH_any lh vh W h l2)
  have H2 := Lib.hid h2
  have b1 : (backI li).length ≤ 1000000 := Nat.le_trans (backI_le li) l1
  have b2 : (backH lh).length ≤ 1000000 := Nat.le_trans (backH_le lh) l2
  clear h1 h2
  go_enter Try.func52, Try.ntmps52
  go_wp2_with fail
  refine C1.out.mono ?_
  rintro e w1 ⟨v1, rfl, hO1, hb1⟩
  have O1 := Lib.hid hO1
  have B1 := Lib.hid hb1
  clear hO1 hb1
  go_wp2_with fail
  refine (C2.out _ (H2.out.below B1.out)).mono ?_
  rintro e w2 ⟨v2, rfl, hO2, hb2⟩
  have O1' := Lib.hid (own_below O1.out hb2)
  have B2 := Lib.hid (bThen B1.out hb2)
  have hs2 := hb2.size
  have hs1 := B1.out.size
  have O2 := Lib.hid hO2
  clear hb2 O1 B1
  by_cases h0 : (backH lh).length = 0
  · have hn : backH lh = [] := List.eq_nil_of_length_eq_zero h0
    have hv2 : v2 = .slice none 0 0 ∨ ∃ ad c, v2 = .slice (some ad) 0 c := by
      rcases hO2.2 with ⟨h, -⟩ | ⟨g, cap, cur, h, -⟩
      · exact .inl h
      · rw [h0] at h; exact .inr ⟨_, _, h⟩
    have htl : tellL li lh = backI li := by unfold tellL; rw [hn, List.append_nil]
    have HTL := Lib.hid htl
    clear hO2 h0 hn htl
    obtain ⟨A1, q1, rfl⟩ := own_slice O1'.out
    rcases hv2 with rfl | ⟨ad, c, rfl⟩
    · go_wp2_with (at_builtin; refine wpList_append_own_none rfl _ _ 119 rfl w.heap.size 2 i0 1 Try.underlying119 HI.out _ _ _ rfl O1'.out rfl ?_)
      refine (tfirst_any (backI li) _ _ (Row.of_own Tm.cs_len O1'.out rfl) (by omega)).mono ?_
      rintro e w3 ⟨rfl, rfl⟩
      go_wp2_with fail
      go_ret2
      exact ⟨by rw [HTL.out]; simp, B2.out⟩
    · go_wp2_with (at_builtin; refine wpList_append_own _ rfl _ _ 119 rfl w.heap.size 2 i0 (.int .i64 0) 1 8 Try.underlying119 HI.out HZ0.out HZ1.out HZ2.out rfl (by decide) _ _ _ rfl O1'.out ad 0 c [] rfl rfl ?c1 ?c2 ?c3 ?c4 ?c5 ?_)
      case c1 => intro j u hj; simp at hj
      case c2 => intro u hu; simp at hu
      case c3 => unfold maxLen; omega
      case c4 => omega
      case c5 => omega
      intro v' W3 hown3 hgrow3 _
      have O3 := Lib.hid hown3
      have B3 := Lib.hid (B2.out.grown hgrow3 (by omega) (fun q hq => (O1'.out.lt _ hq).1))
      obtain ⟨A3, q3, rfl⟩ := own_slice hown3
      clear hown3 hgrow3
      go_wp2_with fail
      refine (tfirst_any (backI li) _ _ (Row.of_own Tm.cs_len (by simpa using O3.out) (by simp)) (by omega)).mono ?_
      rintro e w3 ⟨rfl, rfl⟩
      go_wp2_with fail
      go_ret2
      exact ⟨by rw [HTL.out]; simp, B3.out⟩
  · obtain ⟨g2, c2, rfl, hg2, hg2', hc2⟩ := own_form hO2 (by omega)
    clear hO2 hg2 hc2
    go_wp2_with (at_builtin; refine wpList_append_own _ rfl _ _ 119 rfl w.heap.size 2 i0 (.int .i64 0) 1 8 Try.underlying119 HI.out HZ0.out HZ1.out HZ2.out rfl (by decide) _ _ _ rfl O1'.out ⟨g2, 0, none⟩ (backH lh).length c2 ((backH lh).flatMap Tm.cs) rfl (flat_len Tm.cs_len _) ?c1 ?c2 ?c3 ?c4 ?c5 ?_)
    case c1 => intro j u hj; exact O2.out.cells (g := g2) rfl j u hj
    case c2 => intro u hu; exact Tm.flat_one u hu
    case c3 => unfold maxLen; omega
    case c4 => omega
    case c5 => omega
    intro v' W3 hown3 hgrow3 _
    have O3 := Lib.hid hown3
    have B3 := Lib.hid (B2.out.grown hgrow3 (by omega) (fun q hq => (O1'.out.lt _ hq).1))
    obtain ⟨A3, q3, rfl⟩ := own_slice hown3
    clear hown3 hgrow3
    go_wp2_with fail
    refine (tfirst_any (tellL li lh) _ _ (Row.of_own Tm.cs_len (by unfold tellL; rw [List.flatMap_append]; exact O3.out) (by unfold tellL; simp)) (by unfold tellL; rw [List.length_append]; omega)).mono ?_
    rintro e w3 ⟨rfl, rfl⟩
    go_wp2_with fail
    go_ret2
    exact ⟨by unfold tellL; simp; omega, B3.out⟩

def laterM (li : List Inp) (lh : List Hld) (o : Int) : Bool := decide (0 < (tellL li lh).length) && decide (o < firstT (tellL li lh))
def outM (li : List Inp) (lh : List Hld) (o : Int) : Int := if laterM li lh o then firstT (tellL li lh) else o
def TellTo (li : List Inp) (lh : List Hld) (o t : Int) (b : Bool) (w : World) (e : Ending) (w' : World) : Prop :=
  ∃ vi vh, e = .returned (.tuple #[.agg #[vi, vh, .int .i64 o], .int .i64 t, .bool b]) ∧ Row Inp.cs 2 w' vi li ∧ Row Hld.cs 2 w' vh lh ∧ Below w.heap.size w w'
set_option maxHeartbeats 2000000 in
set_option maxRecDepth 100000 in
theorem tell_no (li : List Inp) (lh : List Hld) (o : Int) (v : Value) (w : World) (h : MarksAt w v li lh o) (hr : rightM li lh o = false) :
    Calls Try.prog 22 #[v] w (TellTo [] [] 0 0 false w) := by
  have HM := Lib.hid h
  obtain ⟨vi, vh, rfl, -⟩ := h
  have HR := Lib.hid (fun W (hm : MarksAt W (.agg #[vi, vh, .int .i64 o]) li lh o) => mright_any li lh o _ W hm false hr)
  clear hr
  go_enter Try.func22, Try.ntmps22
  go_wp2_with fail
  refine (HR.out _ ?hm).mono ?_
  case hm =>
    obtain ⟨a, b, e0, r1, r2, r3⟩ := HM.out
    exact ⟨a, b, e0, (r1.alloc _).alloc _, (r2.alloc _).alloc _, r3⟩
  rintro e w1 ⟨rfl, hb⟩
  have hK := (hb.block (w.heap.size + 1) (by simp)).trans (heap_at _ _ _ (by simp))
  have BB := Lib.hid (belA (bel_alloc (Below.refl _ w) _) hb)
  have z0 := cellsAt hK 0
  have z1 := cellsAt hK 1
  have z2 := cellsAt hK 2
  have y0 := frozAt hK 0
  have y1 := frozAt hK 1
  have y2 := frozAt hK 2
  simp at z0 z1 z2
  clear hK hb
  go_wp2_with fail
  exact bodyPost_ret (v := .tuple #[.agg #[.slice none 0 0, .slice none 0 0, .int .i64 0], .int .i64 0, .bool false]) (by simp [results, Try.results22, go_sem, z0, z1, z2]) rfl ⟨_, _, rfl, Row.none_, Row.none_, ((BB.out.setCell (p := ⟨w.heap.size + 1, 0, none⟩) (Nat.le_succ _) _).setCell (p := ⟨w.heap.size + 1, 1, none⟩) (Nat.le_succ _) _).setCell (p := ⟨w.heap.size + 1, 2, none⟩) (Nat.le_succ _) _⟩
set_option maxHeartbeats 4000000 in
set_option maxRecDepth 100000 in
theorem tell_yes (li : List Inp) (lh : List Hld) (o : Int) (v : Value) (w : World) (h : MarksAt w v li lh o) (hr : rightM li lh o = true) (l1 : li.length ≤ 1000000) (l2 : lh.length ≤ 1000000) :
    Calls Try.prog 22 #[v] w (TellTo li lh (outM li lh o) (outM li lh o) (laterM li lh o) w) := by
  have HM := Lib.hid h
  obtain ⟨vi, vh, rfl, r1, r2, -⟩ := h
  have R1 := Lib.hid r1
  have R2 := Lib.hid r2
  have HR := Lib.hid (fun W (hm : MarksAt W (.agg #[vi, vh, .int .i64 o]) li lh o) => mright_any li lh o _ W hm true hr)
  have HF := Lib.hid (fun W (h1 : Row Inp.cs 2 W vi li) (h2 : Row Hld.cs 2 W vh lh) => first_any li lh vi vh W h1 h2 l1 l2)
  have HOW := Lib.hid (fun W (h1 : Row Inp.cs 2 W vi li) (h2 : Row Hld.cs 2 W vh lh) => own_any li lh o vi vh W h1 h2 l1 l2)
  have hro := firstT_rng (tellL li lh)
  obtain ⟨F, hF⟩ : ∃ F, firstT (tellL li lh) = F := ⟨_, rfl⟩
  obtain ⟨b, hb⟩ : ∃ b, decide (0 < (tellL li lh).length) = b := ⟨_, rfl⟩
  have hL : laterM li lh o = (b && decide (o < F)) := by unfold laterM; rw [hF, hb]
  have hO : outM li lh o = if (b && decide (o < F)) then F else o := by unfold outM; rw [hL, hF]
  have HL := Lib.hid hL
  have HOo := Lib.hid hO
  have HFF := Lib.hid hF
  have HBB := Lib.hid hb
  obtain ⟨A1, q1, rfl, -⟩ := r1
  obtain ⟨A2, q2, rfl, -⟩ := r2
  clear hr hF hb hL hO hro
  go_enter Try.func22, Try.ntmps22
  go_wp2_with fail
  refine (HR.out _ ?hm).mono ?_
  case hm =>
    obtain ⟨a, b, e0, r1, r2, r3⟩ := HM.out
    exact ⟨a, b, e0, (r1.alloc _).alloc _, (r2.alloc _).alloc _, r3⟩
  rintro e w1 ⟨rfl, hb⟩
  have K0 := Lib.hid ((hb.block w.heap.size (by simp; omega)).trans ((Below.heap_alloc _ _ _ (by simp)).trans (heap_alloc_new w _)))
  have K1 := Lib.hid ((hb.block (w.heap.size + 1) (by simp)).trans (heap_at _ _ _ (by simp)))
  have BB := Lib.hid (belA (bel_alloc (Below.refl _ w) _) hb)
  have Q1 := Lib.hid (R1.out.below BB.out)
  have Q2 := Lib.hid (R2.out.below BB.out)
  have c0 := cellsAt K0.out 0
  have c1 := cellsAt K0.out 1
  have c2 := cellsAt K0.out 2
  simp at c0 c1 c2
  clear hb
  go_wp2_with fail
  refine (HF.out _ Q1.out Q2.out).mono ?_
  rintro e w2 ⟨rfl, hb⟩
  rw [HFF.out, HBB.out]
  have K0' := Lib.hid ((hb.block _ (blk_lt K0.out)).trans K0.out)
  have K1' := Lib.hid ((hb.block _ (blk_lt K1.out)).trans K1.out)
  have BB2 := Lib.hid (bThen BB.out hb)
  have Q1' := Lib.hid (Q1.out.below hb)
  have Q2' := Lib.hid (Q2.out.below hb)
  clear hb c0 c1 c2 K0 K1 BB Q1 Q2
  have c0 := cellsAt K0'.out 0
  have c1 := cellsAt K0'.out 1
  have c2 := cellsAt K0'.out 2
  simp at c0 c1 c2
  go_wp2_with fail
  refine (HOW.out _ Q1'.out Q2'.out).mono ?_
  rintro e w3 ⟨v3, v4, rfl, hO3, hO4, hb⟩
  have K0 := Lib.hid ((hb.block _ (blk_lt K0'.out)).trans K0'.out)
  have K1 := Lib.hid ((hb.block _ (blk_lt K1'.out)).trans K1'.out)
  have BB := Lib.hid (bThen BB2.out hb)
  have hs := hb.size
  have hl1 := blk_lt K1'.out
  have O3 := Lib.hid (own_base hO3 (show w.heap.size + 2 ≤ w2.heap.size by omega))
  have O4 := Lib.hid (own_base hO4 (show w.heap.size + 2 ≤ w2.heap.size by omega))
  obtain ⟨A3, q3, rfl⟩ := own_slice hO3
  obtain ⟨A4, q4, rfl⟩ := own_slice hO4
  clear hb c0 c1 c2 K0' K1' BB2 Q1' Q2' hO3 hO4 hs hl1
  have c0 := cellsAt K0.out 0
  have c1 := cellsAt K0.out 1
  have c2 := cellsAt K0.out 2
  have f0 := frozAt K0.out 0
  have f1 := frozAt K0.out 1
  have f2 := frozAt K0.out 2
  have z0 := cellsAt K1.out 0
  have z1 := cellsAt K1.out 1
  have z2 := cellsAt K1.out 2
  have y0 := frozAt K1.out 0
  have y1 := frozAt K1.out 1
  have y2 := frozAt K1.out 2
  simp at c0 c1 c2 z0 z1 z2
  cases b with
  | false =>
    go_wp2_with fail
    go_region
    go_wp2_with fail
    exact bodyPost_ret (v := .tuple #[.agg #[.slice A3 li.length q3, .slice A4 lh.length q4, .int .i64 o], .int .i64 o, .bool false]) (by simp [results, Try.results22, go_sem, z0, z1, z2]) rfl ⟨.slice A3 li.length q3, .slice A4 lh.length q4, by rw [HOo.out, HL.out]; rfl, Row.of_own (base := w.heap.size + 2) (e := 45) Inp.cs_len (by repeat' (first | (with_reducible exact O3.out) | (with_reducible exact O4.out) | (with_reducible refine own_drew ?_) | (with_reducible refine own_set ?_ (by simp) _))) rfl, Row.of_own (base := w.heap.size + 2) (e := 47) Hld.cs_len (by repeat' (first | (with_reducible exact O3.out) | (with_reducible exact O4.out) | (with_reducible refine own_drew ?_) | (with_reducible refine own_set ?_ (by simp) _))) rfl, by repeat' (first | (with_reducible exact BB.out) | (with_reducible refine Below.drew ?_) | (with_reducible refine Below.setCell ?_ (by simp) _))⟩
  | true =>
    by_cases ho : o < F
    · have ho2 : decide (F ≤ o) = false := by simpa using ho
      have ho3 : ¬ F ≤ o := by omega
      have HHo := Lib.hid ho
      clear ho
      go_upto_region 7 with fail
      obtain ⟨W5, hW5⟩ : ∃ W5, W5 = ((w3.setCell ⟨w.heap.size, 0, none⟩ (.slice A3 li.length q3)).setCell ⟨w.heap.size, 1, none⟩ (.slice A4 lh.length q4)).setCell ⟨w.heap.size, 2, none⟩ (.int .i64 o) := ⟨_, rfl⟩
      rw [← hW5]
      have P0 := Lib.hid (show W5.heap[w.heap.size]? = some (.cells #[.slice A3 li.length q3, .slice A4 lh.length q4, .int .i64 o] 25 (0, 0)) by rw [hW5]; exact blk_set (blk_set (blk_set K0.out 0 _) 1 _) 2 _)
      have P1 := Lib.hid (show W5.heap[w.heap.size + 1]? = some (.cells #[.slice none 0 0, .slice none 0 0, .int .i64 0] 25 (0, 0)) by rw [hW5]; exact (Below.heap_setCell _ _ _ _ (by simp)).trans ((Below.heap_setCell _ _ _ _ (by simp)).trans ((Below.heap_setCell _ _ _ _ (by simp)).trans K1.out)))
      have O3 := Lib.hid (show W5.ownsRow (w.heap.size + 2) 45 2 (.slice A3 li.length q3) li.length (li.flatMap Inp.cs) by rw [hW5]; exact own_set (own_set (own_set O3.out (by simp) _) (by simp) _) (by simp) _)
      have O4 := Lib.hid (show W5.ownsRow (w.heap.size + 2) 47 2 (.slice A4 lh.length q4) lh.length (lh.flatMap Hld.cs) by rw [hW5]; exact own_set (own_set (own_set O4.out (by simp) _) (by simp) _) (by simp) _)
      have BB := Lib.hid (show Below w.heap.size w W5 by rw [hW5]; exact ((BB.out.setCell (p := ⟨w.heap.size, 0, none⟩) (Nat.le_refl _) _).setCell (p := ⟨w.heap.size, 1, none⟩) (Nat.le_refl _) _).setCell (p := ⟨w.heap.size, 2, none⟩) (Nat.le_refl _) _)
      clear hW5 K0 K1 c0 c1 c2 f0 f1 f2 z0 z1 z2 y0 y1 y2
      have c0 := cellsAt P0.out 0
      have c1 := cellsAt P0.out 1
      have c2 := cellsAt P0.out 2
      have f2 := frozAt P0.out 2
      have z0 := cellsAt P1.out 0
      have z1 := cellsAt P1.out 1
      have z2 := cellsAt P1.out 2
      have y0 := frozAt P1.out 0
      have y1 := frozAt P1.out 1
      have y2 := frozAt P1.out 2
      simp at c0 c1 c2 z0 z1 z2
      go_wp2_with fail
      exact bodyPost_ret (v := .tuple #[.agg #[.slice A3 li.length q3, .slice A4 lh.length q4, .int .i64 F], .int .i64 F, .bool true]) (by simp [results, Try.results22, go_sem, z0, z1, z2]) rfl ⟨.slice A3 li.length q3, .slice A4 lh.length q4, by rw [HOo.out, HL.out, decide_eq_true (by have := HHo.out; omega)]; rfl, Row.of_own (base := w.heap.size + 2) (e := 45) Inp.cs_len (by repeat' (first | (with_reducible exact O3.out) | (with_reducible exact O4.out) | (with_reducible refine own_drew ?_) | (with_reducible refine own_set ?_ (by simp) _))) rfl, Row.of_own (base := w.heap.size + 2) (e := 47) Hld.cs_len (by repeat' (first | (with_reducible exact O3.out) | (with_reducible exact O4.out) | (with_reducible refine own_drew ?_) | (with_reducible refine own_set ?_ (by simp) _))) rfl, by repeat' (first | (with_reducible exact BB.out) | (with_reducible refine Below.drew ?_) | (with_reducible refine Below.setCell ?_ (by simp) _))⟩
    · have ho2 : decide (F ≤ o) = true := by simp; omega
      have ho3 : F ≤ o := by omega
      have HHo := Lib.hid ho
      clear ho
      go_wp2_with fail
      go_region
      go_wp2_with fail
      exact bodyPost_ret (v := .tuple #[.agg #[.slice A3 li.length q3, .slice A4 lh.length q4, .int .i64 o], .int .i64 o, .bool false]) (by simp [results, Try.results22, go_sem, z0, z1, z2]) rfl ⟨.slice A3 li.length q3, .slice A4 lh.length q4, by rw [HOo.out, HL.out, decide_eq_false (by have := HHo.out; omega)]; rfl, Row.of_own (base := w.heap.size + 2) (e := 45) Inp.cs_len (by repeat' (first | (with_reducible exact O3.out) | (with_reducible exact O4.out) | (with_reducible refine own_drew ?_) | (with_reducible refine own_set ?_ (by simp) _))) rfl, Row.of_own (base := w.heap.size + 2) (e := 47) Hld.cs_len (by repeat' (first | (with_reducible exact O3.out) | (with_reducible exact O4.out) | (with_reducible refine own_drew ?_) | (with_reducible refine own_set ?_ (by simp) _))) rfl, by repeat' (first | (with_reducible exact BB.out) | (with_reducible refine Below.drew ?_) | (with_reducible refine Below.setCell ?_ (by simp) _))⟩
end Go.Proofs.Ytdanfeldbdooeaa
