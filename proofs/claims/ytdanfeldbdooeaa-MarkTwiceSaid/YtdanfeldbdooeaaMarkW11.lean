/-
  WALKS of layer 10: the reference's Tell; the law MarkTells.
-/
import Derived.Test.YtdanfeldbdooeaaMarkW10
import Derived.Test.YtdanfeldbdooeaaMarkW4
set_option linter.unusedVariables false
set_option linter.unusedSimpArgs false
namespace Go.Proofs.Ytdanfeldbdooeaa
open Go.RowKit

set_option maxHeartbeats 2000000 in
set_option maxRecDepth 100000 in
theorem rtell_no (li : List Inp) (lh : List Hld) (o : Int) (v : Value) (w : World) (h : MarksAt w v li lh o) (hr : rightM li lh o = false) :
    Calls Try.prog 26 #[v] w (TellTo [] [] 0 0 false w) := by
  have HM := Lib.hid h
  obtain ⟨vi, vh, rfl, -⟩ := h
  have HR := Lib.hid (fun W (hm : MarksAt W (.agg #[vi, vh, .int .i64 o]) li lh o) => rmright_any li lh o _ W hm false hr)
  clear hr
  go_enter Try.func26, Try.ntmps26
  go_wp2_with fail
  refine (HR.out _ ?hm).mono ?_
  case hm =>
    obtain ⟨a, b, e0, r1, r2, r3⟩ := HM.out
    exact ⟨a, b, e0, (r1.alloc _).alloc _, (r2.alloc _).alloc _, r3⟩
  rintro e w1 ⟨rfl, hb⟩
  have hK := (hb.block (w.heap.size + 1) (by simp)).trans (heap_at _ _ _ (by simp))
  have BB := Lib.hid (belA (bel_alloc (Below.refl _ w) _) hb)
  have z0 := cellsAt hK 0
  have z1 := cellsAt hK 1
  have z2 := cellsAt hK 2
  have y0 := frozAt hK 0
  have y1 := frozAt hK 1
  have y2 := frozAt hK 2
  simp at z0 z1 z2
  clear hK hb
  go_wp2_with fail
  exact bodyPost_ret (v := .tuple #[.agg #[.slice none 0 0, .slice none 0 0, .int .i64 0], .int .i64 0, .bool false]) (by simp [results, Try.results26, go_sem, z0, z1, z2]) rfl ⟨_, _, rfl, Row.none_, Row.none_, ((BB.out.setCell (p := ⟨w.heap.size + 1, 0, none⟩) (Nat.le_succ _) _).setCell (p := ⟨w.heap.size + 1, 1, none⟩) (Nat.le_succ _) _).setCell (p := ⟨w.heap.size + 1, 2, none⟩) (Nat.le_succ _) _⟩
theorem tellTo_of {li : List Inp} {lh : List Hld} {o t o' t' : Int} {b b' : Bool} {w w' : World} {vi vh : Value} (he : (o', t', b') = (o, t, b)) (h1 : Row Inp.cs 2 w vi li) (h2 : Row Hld.cs 2 w vh lh) (hb : Below w.heap.size w w') :
    TellTo li lh o t b w (.returned (.tuple #[.agg #[vi, vh, .int .i64 o'], .int .i64 t', .bool b'])) w' := by
  simp only [Prod.mk.injEq] at he
  obtain ⟨rfl, rfl, rfl⟩ := he
  exact ⟨vi, vh, rfl, h1.below hb, h2.below hb, hb⟩
set_option maxHeartbeats 4000000 in
set_option maxRecDepth 100000 in
theorem rtell_yes (li : List Inp) (lh : List Hld) (o : Int) (v : Value) (w : World) (h : MarksAt w v li lh o) (hr : rightM li lh o = true) (l1 : li.length ≤ 1000000) (l2 : lh.length ≤ 1000000) :
    Calls Try.prog 26 #[v] w (TellTo li lh (outM li lh o) (outM li lh o) (laterM li lh o) w) := by
  have HM := Lib.hid h
  have ha := allows_out hr
  obtain ⟨vi, vh, rfl, r1, r2, -⟩ := h
  have R1 := Lib.hid r1
  have R2 := Lib.hid r2
  have HR := Lib.hid (fun W (hm : MarksAt W (.agg #[vi, vh, .int .i64 o]) li lh o) => rmright_any li lh o _ W hm true hr)
  have HA := Lib.hid (fun W (hm : MarksAt W (.agg #[vi, vh, .int .i64 o]) li lh o) => allows_any li lh o _ W hm l1 l2)
  obtain ⟨T, hT⟩ : ∃ T, allowsM li lh o = T := ⟨_, rfl⟩
  rw [hT] at ha
  have HT := Lib.hid hT
  have Ha := Lib.hid ha
  obtain ⟨A1, q1, rfl, -⟩ := r1
  obtain ⟨A2, q2, rfl, -⟩ := r2
  clear hr hT ha
  go_enter Try.func26, Try.ntmps26
  go_wp2_with fail
  refine (HR.out _ ?hm).mono ?_
  case hm =>
    obtain ⟨a, b, e0, r1, r2, r3⟩ := HM.out
    exact ⟨a, b, e0, (r1.alloc _).alloc _, (r2.alloc _).alloc _, r3⟩
  rintro e w1 ⟨rfl, hb⟩
  have K0 := Lib.hid ((hb.block w.heap.size (by simp; omega)).trans ((Below.heap_alloc _ _ _ (by simp)).trans (heap_alloc_new w _)))
  have K1 := Lib.hid ((hb.block (w.heap.size + 1) (by simp)).trans (heap_at _ _ _ (by simp)))
  have BB := Lib.hid (belA (bel_alloc (Below.refl _ w) _) hb)
  have c0 := cellsAt K0.out 0
  have c1 := cellsAt K0.out 1
  have c2 := cellsAt K0.out 2
  simp at c0 c1 c2
  clear hb
  go_wp2_with fail
  refine (HA.out _ (HM.out.below BB.out)).mono ?_
  rintro e w2 ⟨rfl, hb⟩
  rw [HT.out]
  have K0' := Lib.hid ((hb.block _ (blk_lt K0.out)).trans K0.out)
  have K1' := Lib.hid ((hb.block _ (blk_lt K1.out)).trans K1.out)
  have BB2 := Lib.hid (bThen BB.out hb)
  clear hb c0 c1 c2 K0 K1 BB
  have c0 := cellsAt K0'.out 0
  have c1 := cellsAt K0'.out 1
  have c2 := cellsAt K0'.out 2
  have z0 := cellsAt K1'.out 0
  have z1 := cellsAt K1'.out 1
  have z2 := cellsAt K1'.out 2
  have y0 := frozAt K1'.out 0
  have y1 := frozAt K1'.out 1
  have y2 := frozAt K1'.out 2
  simp at c0 c1 c2 z0 z1 z2
  rcases Ha.out with ⟨e1, e2, e3⟩ | ⟨e1, e2, e3⟩
  · have E1 := Lib.hid e1
    have E3 := Lib.hid e3
    clear e1 e3
    go_wp2_with fail
    refine bodyPost_ret (v := .tuple #[.agg #[.slice A1 li.length q1, .slice A2 lh.length q2, .int .i64 T], .int .i64 T, .bool true]) (by simp [results, Try.results26, go_sem, z0, z1, z2]) rfl (tellTo_of (by rw [E1.out, E3.out]) R1.out R2.out ?_)
    repeat' (first | (with_reducible exact BB2.out) | (with_reducible refine Below.drew ?_) | (with_reducible refine Below.setCell ?_ (by simp) _))
  · have E1 := Lib.hid e1
    have E3 := Lib.hid e3
    clear e1 e3
    go_wp2_with fail
    go_region
    go_wp2_with fail
    refine bodyPost_ret (v := .tuple #[.agg #[.slice A1 li.length q1, .slice A2 lh.length q2, .int .i64 o], .int .i64 o, .bool false]) (by simp [results, Try.results26, go_sem, z0, z1, z2]) rfl (tellTo_of (by rw [E1.out, E3.out]) R1.out R2.out ?_)
    repeat' (first | (with_reducible exact BB2.out) | (with_reducible refine Below.drew ?_) | (with_reducible refine Below.setCell ?_ (by simp) _))
theorem tell_both (li : List Inp) (lh : List Hld) (o : Int) (l1 : li.length ≤ 1000000) (l2 : lh.length ≤ 1000000) : ∃ li' lh' o' t b, li'.length ≤ 1000000 ∧ lh'.length ≤ 1000000 ∧ (∀ v w, MarksAt w v li lh o → Calls Try.prog 22 #[v] w (TellTo li' lh' o' t b w)) ∧ (∀ v w, MarksAt w v li lh o → Calls Try.prog 26 #[v] w (TellTo li' lh' o' t b w)) := by
  cases hr : rightM li lh o with
  | false => exact ⟨[], [], 0, 0, false, by simp, by simp, fun v w h => tell_no li lh o v w h hr, fun v w h => rtell_no li lh o v w h hr⟩
  | true => exact ⟨li, lh, _, _, _, l1, l2, fun v w h => tell_yes li lh o v w h hr l1 l2, fun v w h => rtell_yes li lh o v w h hr l1 l2⟩
set_option maxHeartbeats 4000000 in
set_option maxRecDepth 100000 in
theorem tells_walk (v : Value) (li : List Inp) (lh : List Hld) (o : Int) (w : World) (h : MarksAt w v li lh o) :
    Calls Try.prog 7 #[v] w fun e w' => e = .returned (.bool true) ∧ Below w.heap.size w w' := by
  have HM := Lib.hid h
  obtain ⟨vi, vh, rfl, r1, r2, -, -, -, m1, m2⟩ := h
  obtain ⟨A1, q1, rfl, -⟩ := r1
  obtain ⟨A2, q2, rfl, -⟩ := r2
  unfold maxLen at m1 m2
  by_cases l1 : li.length ≤ 100
  rotate_left
  · obtain ⟨n, hn⟩ : ∃ n, li.length = n := ⟨_, rfl⟩
    rw [hn] at l1 m1 ⊢
    clear hn HM
    go_enter Try.func7, Try.ntmps7
    go_wp2_with fail
    go_ret
    exact ⟨rfl, bel_alloc (Below.refl _ _) _⟩
  by_cases l2 : lh.length ≤ 100
  rotate_left
  · obtain ⟨n, hn⟩ : ∃ n, lh.length = n := ⟨_, rfl⟩
    obtain ⟨m, hm⟩ : ∃ n, li.length = n := ⟨_, rfl⟩
    rw [hn] at l2 m2 ⊢
    rw [hm] at l1 m1 ⊢
    clear hn hm HM
    go_enter Try.func7, Try.ntmps7
    go_wp2_with fail
    go_ret
    exact ⟨rfl, bel_alloc (Below.refl _ _) _⟩
  obtain ⟨li', lh', o', t, b, n1, n2, h1, h2⟩ := tell_both li lh o (by omega) (by omega)
  have N1 := Lib.hid n1
  have N2 := Lib.hid n2
  have H1 := Lib.hid h1
  have H2 := Lib.hid h2
  obtain ⟨n, hn⟩ : ∃ n, li.length = n := ⟨_, rfl⟩
  obtain ⟨m, hm⟩ : ∃ n, lh.length = n := ⟨_, rfl⟩
  rw [hn] at l1 m1 HM ⊢
  rw [hm] at l2 m2 HM ⊢
  clear hn hm h1 h2 n1 n2
  go_enter Try.func7, Try.ntmps7
  go_wp2_with fail
  refine (H1.out _ _ (HM.out.below (bel_alloc (Below.refl _ _) _))).mono ?_
  rintro e w1 ⟨va, vb, rfl, ra, rb, hb⟩
  have RA := Lib.hid ra
  have RB := Lib.hid rb
  obtain ⟨A3, q3, rfl, -⟩ := ra
  obtain ⟨A4, q4, rfl, -⟩ := rb
  have K0 := Lib.hid (newA hb)
  have BB := Lib.hid (belA (Below.refl _ w) hb)
  have c0 := cellsAt K0.out 0
  have c1 := cellsAt K0.out 1
  have c2 := cellsAt K0.out 2
  simp at c0 c1 c2
  clear hb
  have hlk := blk_lt K0.out
  go_wp2_with fail
  refine (H2.out _ _ (HM.out.below (bel_alloc BB.out _))).mono ?_
  rintro e w2 ⟨vc, vd, rfl, rc, rd, hb⟩
  have RC := Lib.hid rc
  have RD := Lib.hid rd
  obtain ⟨A5, q5, rfl, -⟩ := rc
  obtain ⟨A6, q6, rfl, -⟩ := rd
  have RA2 := Lib.hid ((RA.out.alloc (.cells #[.slice A3 li'.length q3, .slice A4 lh'.length q4, .int .i64 o'] 25)).below hb)
  have RB2 := Lib.hid ((RB.out.alloc (.cells #[.slice A3 li'.length q3, .slice A4 lh'.length q4, .int .i64 o'] 25)).below hb)
  have K1 := Lib.hid (newA hb)
  have BB2 := Lib.hid (belA BB.out hb)
  have hlk1 := blk_lt K1.out
  clear hb K0 BB RA RB c0 c1 c2 hlk
  go_wp2_with fail
  refine (malive_any _).mono ?_
  rintro e w3 ⟨rfl, hb⟩
  have K2 := Lib.hid (newA hb)
  have K3 := Lib.hid ((hb.block _ (by simp; omega)).trans ((Below.heap_alloc w2 _ _ hlk1).trans K1.out))
  have BB3 := Lib.hid (belA BB2.out hb)
  have S1 := Lib.hid ((RA2.out.alloc (.cells #[.slice A5 li'.length q5, .slice A6 lh'.length q6, .int .i64 o'] 25)).below hb)
  have S2 := Lib.hid ((RB2.out.alloc (.cells #[.slice A5 li'.length q5, .slice A6 lh'.length q6, .int .i64 o'] 25)).below hb)
  have S3 := Lib.hid ((RC.out.alloc (.cells #[.slice A5 li'.length q5, .slice A6 lh'.length q6, .int .i64 o'] 25)).below hb)
  have S4 := Lib.hid ((RD.out.alloc (.cells #[.slice A5 li'.length q5, .slice A6 lh'.length q6, .int .i64 o'] 25)).below hb)
  clear hb K1 BB2 RA2 RB2 RC RD hlk1
  have c0 := cellsAt K2.out 0
  have c1 := cellsAt K2.out 1
  have c2 := cellsAt K2.out 2
  have d0 := cellsAt K3.out 0
  have d1 := cellsAt K3.out 1
  have d2 := cellsAt K3.out 2
  simp at c0 c1 c2 d0 d1 d2
  go_wp2_with fail
  refine (likeM_same li' lh' o' _ _ _ _ _ S1.out S2.out S3.out S4.out N1.out N2.out).mono ?_
  rintro e w4 ⟨rfl, hb⟩
  have BB4 := Lib.hid (bThen BB3.out hb)
  clear hb c0 c1 c2 d0 d1 d2
  go_wp2_with fail
  go_ret
  exact ⟨rfl, BB4.out⟩
end Go.Proofs.Ytdanfeldbdooeaa
