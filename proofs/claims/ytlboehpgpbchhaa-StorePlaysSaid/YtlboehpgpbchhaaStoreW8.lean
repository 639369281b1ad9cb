/-
  WALKS of layer 17: the laws StoreAgain and StoreReads.
-/
import Derived.Test.YtlboehpgpbchhaaStoreArgs
set_option linter.unusedVariables false
set_option linter.unusedSimpArgs false
namespace Go.Proofs.Ytlboehpgpbchhaa
open Go.RowKit

theorem StIn.below {W W' : World} {v : Value} {s : St} (h : StIn W v s) (hb : Below W.heap.size W W') : StIn W' v s := by
  obtain ⟨vc, vf, e, h1, h2, h3⟩ := h
  exact ⟨vc, vf, e, h1.below hb, h2.below hb, h3⟩
theorem StIn.form {W : World} {v : Value} {s : St} (h : StIn W v s) : ∃ A1 c1 A2 c2, v = .agg #[.slice A1 s.c.length c1, .slice A2 s.f.length c2, .bool s.d] := by
  obtain ⟨vc, vf, e, h1, h2, h3⟩ := h
  obtain ⟨A1, c1, rfl, -⟩ := h1
  obtain ⟨A2, c2, rfl, -⟩ := h2
  exact ⟨A1, c1, A2, c2, e⟩
theorem StAt.form3 {W : World} {v : Value} {s : St} (h : StAt W v s) : ∃ A1 n1 c1 A2 n2 c2, v = .agg #[.slice A1 n1 c1, .slice A2 n2 c2, .bool s.d] ∧ n1 = s.c.length ∧ n2 = s.f.length := by
  obtain ⟨A1, c1, A2, c2, e, -⟩ := h.form
  exact ⟨A1, _, c1, A2, _, c2, e, rfl, rfl⟩
theorem StAt.rows {W : World} {A1 A2 : Option Addr} {n1 n2 c1 c2 : Nat} {d : Bool} {s : St} (h : StAt W (.agg #[.slice A1 n1 c1, .slice A2 n2 c2, .bool d]) s) : OkRow W (.slice A1 n1 c1) s.c ∧ OkRow W (.slice A2 n2 c2) s.f := by
  obtain ⟨vc, vf, e, h1, h2⟩ := h
  injection e with e
  injection e with e
  simp at e
  obtain ⟨rfl, rfl, -⟩ := e
  exact ⟨h1, h2⟩
theorem right_nil {s : St} (h : rightB s.c s.f = true) : rightB s.c [] = true := by
  have h := right_iff.1 h
  exact right_iff.2 (right_of h.good h.len (by simp) (by simp))
theorem again_start {s : St} (h : rightB s.c s.f = true) : startS s = (⟨s.c, [], false⟩, 0) ∧ startS ⟨s.c, [], false⟩ = (⟨s.c, [], false⟩, 0) ∧ commitS ⟨s.c, [], false⟩ = (⟨s.c, [], false⟩, 0) := by
  have h2 := right_nil h
  have hl := (right_iff.1 h).len
  refine ⟨by unfold startS; rw [if_pos h], by unfold startS; simp only; rw [if_pos h2], ?_⟩
  unfold commitS
  simp only
  rw [if_pos h2, if_neg (by simp), if_neg (by simp [countL]; omega)]
  rfl
theorem get_with {l : List Cl} {x : Cl} (hs : Rise l) : getS (withL l x) x.n = if noB x.b = true then none else some x.b := by
  unfold getS
  cases hb : noB x.b with
  | true =>
    rw [if_pos rfl, Option.map_eq_none_iff, List.find?_eq_none]
    intro c hc
    rcases with_mem hs hc with ⟨-, h⟩ | ⟨-, h⟩
    · rw [hb] at h; cases h
    · rw [eqB_no.2 h]; simp
  | false =>
    rw [if_neg (by simp)]
    have hm : x ∈ withL l x := by
      obtain ⟨i, hi, h⟩ := at_ex hs x.n
      rw [with_eq hs h hi, hb]
      simp
    cases hf : (withL l x).find? (fun c => eqB c.n x.n) with
    | none =>
      rw [List.find?_eq_none] at hf
      exact absurd (eqB_refl x.n) (hf x hm)
    | some c =>
      have h1 := List.find?_some hf
      have h2 := List.mem_of_find?_eq_some hf
      rcases with_mem hs h2 with ⟨rfl, -⟩ | ⟨-, h⟩
      · rfl
      · exact absurd (eqB_iff.1 h1) h
/-- What the law StoreReads rests on. -/
theorem reads_plain {s : St} {x : Cl} (hr : rightB s.c s.f = true) (hd : s.d = false) (hf : s.f = []) (hm : mayC x = true) :
    writeS s x = (⟨s.c, [x], false⟩, 0) ∧ readS ⟨s.c, [x], false⟩ x.n = readS s x.n ∧ startS ⟨s.c, [x], false⟩ = (⟨s.c, [], false⟩, 0) ∧
      (commitS ⟨s.c, [x], false⟩ = (zS, 3) ∧ s.c.length = 64 ∨ (commitS ⟨s.c, [x], false⟩ = (⟨withL s.c x, [], false⟩, 0) ∧ readS ⟨withL s.c x, [], false⟩ x.n = if noB x.b = true then (⟨#[]⟩, 171) else (x.b, 0))) := by
  have h := right_iff.1 hr
  have h1 : rightB s.c [x] = true := right_iff.2 (right_of h.good h.len (by simp) (by intro y hy; simp at hy; subst hy; exact hm))
  refine ⟨?_, ?_, ?_, ?_⟩
  · unfold writeS
    rw [if_pos (by rw [hr, hm]; rfl), if_neg (by simp [hd]), if_neg (by simp [hf]), hf]
    rfl
  · unfold readS
    simp only
    rw [if_pos h1, if_pos hr, hd]
  · unfold startS
    simp only
    rw [if_pos h1]
  · have hl := with_len (x := x) h.rise
    have hl2 := h.len
    by_cases h64 : 64 < (withL s.c x).length
    · left
      refine ⟨?_, by omega⟩
      unfold commitS
      simp only
      rw [if_pos h1, if_neg (by simp), if_pos (by simpa [countL] using h64)]
    · right
      refine ⟨?_, ?_⟩
      · unfold commitS
        simp only
        rw [if_pos h1, if_neg (by simp), if_neg (by simpa [countL] using h64)]
        rfl
      · have hg := h.good.with_ hm
        have hr2 : rightB (withL s.c x) [] = true := right_iff.2 (right_of hg (by omega) (by simp) (by simp))
        unfold readS
        simp only
        rw [if_pos hr2, if_neg (by simp), get_with h.rise]
        cases noB x.b <;> rfl
theorem write_zero {s : St} {x : Cl} (hr : rightB s.c s.f = true) (hm : mayC x = false) : writeS s x = (zS, 1) := by
  unfold writeS
  rw [if_neg (by rw [hr, hm]; simp)]
/-- A call that answers a store and an error, told as one. -/
theorem st_to {f : Nat} {args : Array Value} {w : World} {r : St × Int} (s : St) (e : Int) (h : Calls Try.prog f args w (StTo r w)) (hr : r = (s, e)) :
    Calls Try.prog f args w fun en w' => ∃ v, en = .returned (.tuple #[v, .int .i64 e]) ∧ StAt w' v s ∧ Below w.heap.size w w' := by
  subst hr
  exact h
set_option maxRecDepth 100000 in
set_option maxHeartbeats 4000000 in
theorem again_walk (s : St) (v : Value) (w : World) (hs : StIn w v s) :
    Calls Try.prog 3 #[v] w fun e w' => e = .returned (.bool true) ∧ Below w.heap.size w w' := by
  have HS := Lib.hid hs
  obtain ⟨A, c, A', c', rfl⟩ := hs.form
  have HSM := Lib.hid (fun W h q hq => small_any s (.agg #[.slice A s.c.length c, .slice A' s.f.length c', .bool s.d]) W h q hq)
  have HRT := Lib.hid (fun W h1 h2 q hq => sright_any s.c s.f s.d (.slice A s.c.length c) (.slice A' s.f.length c') W h1 h2 q hq)
  have HAL := Lib.hid alive_any
  obtain ⟨q, hq⟩ : ∃ q, smallS s = q := ⟨_, rfl⟩
  have HQ := Lib.hid hq
  obtain ⟨rq, hrq⟩ : ∃ q, rightB s.c s.f = q := ⟨_, rfl⟩
  have HRQ := Lib.hid hrq
  obtain ⟨m, hm⟩ : ∃ m, s.c.length = m := ⟨_, rfl⟩
  obtain ⟨m2, hm2⟩ : ∃ m, s.f.length = m := ⟨_, rfl⟩
  obtain ⟨d, hd⟩ : ∃ d, s.d = d := ⟨_, rfl⟩
  rw [hm, hm2, hd] at HS HSM HRT ⊢
  have Hm := Lib.hid hm
  have Hm2 := Lib.hid hm2
  have Hd := Lib.hid hd
  clear hs hq hrq hm hm2 hd
  go_enter Try.func3, Try.ntmps3
  go_wp2_with fail
  have KI := HS
  obtain ⟨W1, hW2⟩ : ∃ X, X = (w).alloc (.cells #[.slice A m c, .slice A' m2 c', .bool d] 24) := ⟨_, rfl⟩
  rw [← hW2]
  have hb3 : Below w.heap.size w W1 := by rw [hW2]; exact bel_alloc (Below.refl _ _) _
  have Ns := Lib.hid (show W1.heap[w.heap.size]? = some (.cells #[.slice A m c, .slice A' m2 c', .bool d] 24 (0, 0)) by rw [hW2]; exact heap_at (w) _ (w.heap.size) (by simp))
  clear hW2
  have BB4 := Lib.hid hb3
  clear hb3
  have Bls := Ns
  clear Ns
  have Z := Lib.hid (StIn.below KI.out BB4.out)
  clear KI
  have KI := Z
  clear Z
  refine (HSM.out _ KI.out q HQ.out).mono ?_
  rintro e w5 ⟨rfl, hb6⟩
  have Z := Lib.hid (heap_below Bls.out hb6)
  clear Bls
  have Bls := Z
  clear Z
  have Z := Lib.hid (StIn.below KI.out hb6)
  clear KI
  have KI := Z
  clear Z
  have BB7 := Lib.hid (bThen BB4.out hb6)
  clear hb6
  have zs := blk_lt Bls.out
  have xs0 := cellsAt Bls.out 0
  have xs1 := cellsAt Bls.out 1
  have xs2 := cellsAt Bls.out 2
  have fs := frozAt Bls.out
  simp at xs0 xs1 xs2
  cases q with
  | false =>
    go_wp2_with fail
    refine (HAL.out _).mono ?_
    rintro e w8 ⟨rfl, hb9⟩
    clear zs fs xs0 xs1 xs2
    have Z := Lib.hid (heap_below Bls.out hb9)
    clear Bls
    have Bls := Z
    clear Z
    have Z := Lib.hid (StIn.below KI.out hb9)
    clear KI
    have KI := Z
    clear Z
    have BB10 := Lib.hid (bThen BB7.out hb9)
    clear hb9
    go_wp2_with fail
    go_ret
    exact ⟨rfl, BB10.out⟩
  | true =>
    have Kp := Lib.hid (KI.out.small HQ.out)
    clear KI
    go_wp2_with fail
    refine (HRT.out _ Kp.out.rows.1 Kp.out.rows.2 rq HRQ.out).mono ?_
    rintro e w8 ⟨rfl, hb9⟩
    clear zs fs xs0 xs1 xs2
    have Z := Lib.hid (heap_below Bls.out hb9)
    clear Bls
    have Bls := Z
    clear Z
    have Z := Lib.hid (StAt.below Kp.out hb9)
    clear Kp
    have Kp := Z
    clear Z
    have BB10 := Lib.hid (bThen BB7.out hb9)
    clear hb9
    have zs := blk_lt Bls.out
    have xs0 := cellsAt Bls.out 0
    have xs1 := cellsAt Bls.out 1
    have xs2 := cellsAt Bls.out 2
    have fs := frozAt Bls.out
    simp at xs0 xs1 xs2
    cases rq with
    | false =>
      go_wp2_with fail
      refine (HAL.out _).mono ?_
      rintro e w11 ⟨rfl, hb12⟩
      clear zs fs xs0 xs1 xs2
      have Z := Lib.hid (heap_below Bls.out hb12)
      clear Bls
      have Bls := Z
      clear Z
      have Z := Lib.hid (StAt.below Kp.out hb12)
      clear Kp
      have Kp := Z
      clear Z
      have BB13 := Lib.hid (bThen BB10.out hb12)
      clear hb12
      go_wp2_with fail
      go_ret
      exact ⟨rfl, BB13.out⟩
    | true =>
      obtain ⟨pa, pb, pc⟩ := again_start HRQ.out
      have HA := Lib.hid (fun v W h => st_to ⟨s.c, [], false⟩ 0 (start_any s v W h) pa)
      have HB := Lib.hid (fun v W h => st_to ⟨s.c, [], false⟩ 0 (start_any ⟨s.c, [], false⟩ v W h) pb)
      have HC := Lib.hid (fun v W h => st_to ⟨s.c, [], false⟩ 0 (commit_any ⟨s.c, [], false⟩ v W h) pc)
      clear pa pb pc
      go_wp2_with fail
      refine (HAL.out _).mono ?_
      rintro e w11 ⟨rfl, hb12⟩
      clear zs fs xs0 xs1 xs2
      have Z := Lib.hid (heap_below Bls.out hb12)
      clear Bls
      have Bls := Z
      clear Z
      have Z := Lib.hid (StAt.below Kp.out hb12)
      clear Kp
      have Kp := Z
      clear Z
      have BB13 := Lib.hid (bThen BB10.out hb12)
      clear hb12
      have zs := blk_lt Bls.out
      have xs0 := cellsAt Bls.out 0
      have xs1 := cellsAt Bls.out 1
      have xs2 := cellsAt Bls.out 2
      have fs := frozAt Bls.out
      simp at xs0 xs1 xs2
      go_wp2_with fail
      refine (HA.out _ _ Kp.out).mono ?_
      rintro e w14 ⟨va, rfl, hka, hb15⟩
      clear zs fs xs0 xs1 xs2
      have Z := Lib.hid (heap_below Bls.out hb15)
      clear Bls
      have Bls := Z
      clear Z
      have Z := Lib.hid (StAt.below Kp.out hb15)
      clear Kp
      have Kp := Z
      clear Z
      have BB16 := Lib.hid (bThen BB13.out hb15)
      clear hb15
      have Ka := Lib.hid hka
      clear hka
      obtain ⟨A1a, n1a, c1a, A2a, n2a, c2a, rfl, e1, e2⟩ := Ka.out.form3
      have Ea := Lib.hid (And.intro e1 e2)
      clear e1 e2
      go_upto_region 4 with fail
      obtain ⟨W17, hW18⟩ : ∃ X, X = (w14).alloc (.cells #[.slice A1a n1a c1a, .slice A2a n2a c2a, .bool false] 24) := ⟨_, rfl⟩
      rw [← hW18]
      have hb19 : Below w14.heap.size w14 W17 := by rw [hW18]; exact bel_alloc (Below.refl _ _) _
      have Na := Lib.hid (show W17.heap[w14.heap.size]? = some (.cells #[.slice A1a n1a c1a, .slice A2a n2a c2a, .bool false] 24 (0, 0)) by rw [hW18]; exact heap_at (w14) _ (w14.heap.size) (by simp))
      clear hW18
      have Z := Lib.hid (heap_below Bls.out hb19)
      clear Bls
      have Bls := Z
      clear Z
      have Z := Lib.hid (StAt.below Kp.out hb19)
      clear Kp
      have Kp := Z
      clear Z
      have Z := Lib.hid (StAt.below Ka.out hb19)
      clear Ka
      have Ka := Z
      clear Z
      have BB20 := Lib.hid (bThen BB16.out hb19)
      clear hb19
      have Bla := Na
      clear Na
      have za := blk_lt Bla.out
      have xa0 := cellsAt Bla.out 0
      have xa1 := cellsAt Bla.out 1
      have xa2 := cellsAt Bla.out 2
      have fa := frozAt Bla.out
      simp at xa0 xa1 xa2
      go_wp2_with fail
      refine (HB.out _ _ Ka.out).mono ?_
      rintro e w21 ⟨vb, rfl, hkb, hb22⟩
      clear za fa xa0 xa1 xa2
      have Z := Lib.hid (heap_below Bls.out hb22)
      clear Bls
      have Bls := Z
      clear Z
      have Z := Lib.hid (heap_below Bla.out hb22)
      clear Bla
      have Bla := Z
      clear Z
      have Z := Lib.hid (StAt.below Kp.out hb22)
      clear Kp
      have Kp := Z
      clear Z
      have Z := Lib.hid (StAt.below Ka.out hb22)
      clear Ka
      have Ka := Z
      clear Z
      have BB23 := Lib.hid (bThen BB20.out hb22)
      clear hb22
      have Kb := Lib.hid hkb
      clear hkb
      obtain ⟨A1b, n1b, c1b, A2b, n2b, c2b, rfl, e1, e2⟩ := Kb.out.form3
      have Eb := Lib.hid (And.intro e1 e2)
      clear e1 e2
      go_upto_region 5 with fail
      obtain ⟨W24, hW25⟩ : ∃ X, X = (w21).alloc (.cells #[.slice A1b n1b c1b, .slice A2b n2b c2b, .bool false] 24) := ⟨_, rfl⟩
      rw [← hW25]
      have hb26 : Below w21.heap.size w21 W24 := by rw [hW25]; exact bel_alloc (Below.refl _ _) _
      have Nb := Lib.hid (show W24.heap[w21.heap.size]? = some (.cells #[.slice A1b n1b c1b, .slice A2b n2b c2b, .bool false] 24 (0, 0)) by rw [hW25]; exact heap_at (w21) _ (w21.heap.size) (by simp))
      clear hW25
      have Z := Lib.hid (heap_below Bls.out hb26)
      clear Bls
      have Bls := Z
      clear Z
      have Z := Lib.hid (heap_below Bla.out hb26)
      clear Bla
      have Bla := Z
      clear Z
      have Z := Lib.hid (StAt.below Kp.out hb26)
      clear Kp
      have Kp := Z
      clear Z
      have Z := Lib.hid (StAt.below Ka.out hb26)
      clear Ka
      have Ka := Z
      clear Z
      have Z := Lib.hid (StAt.below Kb.out hb26)
      clear Kb
      have Kb := Z
      clear Z
      have BB27 := Lib.hid (bThen BB23.out hb26)
      clear hb26
      have Blb := Nb
      clear Nb
      have za := blk_lt Bla.out
      have xa0 := cellsAt Bla.out 0
      have xa1 := cellsAt Bla.out 1
      have xa2 := cellsAt Bla.out 2
      have fa := frozAt Bla.out
      simp at xa0 xa1 xa2
      go_wp2_with fail
      refine (HC.out _ _ Ka.out).mono ?_
      rintro e w28 ⟨vc, rfl, hkc, hb29⟩
      clear za fa xa0 xa1 xa2
      have Z := Lib.hid (heap_below Bls.out hb29)
      clear Bls
      have Bls := Z
      clear Z
      have Z := Lib.hid (heap_below Bla.out hb29)
      clear Bla
      have Bla := Z
      clear Z
      have Z := Lib.hid (heap_below Blb.out hb29)
      clear Blb
      have Blb := Z
      clear Z
      have Z := Lib.hid (StAt.below Kp.out hb29)
      clear Kp
      have Kp := Z
      clear Z
      have Z := Lib.hid (StAt.below Ka.out hb29)
      clear Ka
      have Ka := Z
      clear Z
      have Z := Lib.hid (StAt.below Kb.out hb29)
      clear Kb
      have Kb := Z
      clear Z
      have BB30 := Lib.hid (bThen BB27.out hb29)
      clear hb29
      have Kc := Lib.hid hkc
      clear hkc
      obtain ⟨A1c, n1c, c1c, A2c, n2c, c2c, rfl, e1, e2⟩ := Kc.out.form3
      have Ec := Lib.hid (And.intro e1 e2)
      clear e1 e2
      go_upto_region 6 with fail
      obtain ⟨W31, hW32⟩ : ∃ X, X = (w28).alloc (.cells #[.slice A1c n1c c1c, .slice A2c n2c c2c, .bool false] 24) := ⟨_, rfl⟩
      rw [← hW32]
      have hb33 : Below w28.heap.size w28 W31 := by rw [hW32]; exact bel_alloc (Below.refl _ _) _
      have Nc := Lib.hid (show W31.heap[w28.heap.size]? = some (.cells #[.slice A1c n1c c1c, .slice A2c n2c c2c, .bool false] 24 (0, 0)) by rw [hW32]; exact heap_at (w28) _ (w28.heap.size) (by simp))
      clear hW32
      have Z := Lib.hid (heap_below Bls.out hb33)
      clear Bls
      have Bls := Z
      clear Z
      have Z := Lib.hid (heap_below Bla.out hb33)
      clear Bla
      have Bla := Z
      clear Z
      have Z := Lib.hid (heap_below Blb.out hb33)
      clear Blb
      have Blb := Z
      clear Z
      have Z := Lib.hid (StAt.below Kp.out hb33)
      clear Kp
      have Kp := Z
      clear Z
      have Z := Lib.hid (StAt.below Ka.out hb33)
      clear Ka
      have Ka := Z
      clear Z
      have Z := Lib.hid (StAt.below Kb.out hb33)
      clear Kb
      have Kb := Z
      clear Z
      have Z := Lib.hid (StAt.below Kc.out hb33)
      clear Kc
      have Kc := Z
      clear Z
      have BB34 := Lib.hid (bThen BB30.out hb33)
      clear hb33
      have Blc := Nc
      clear Nc
      have za := blk_lt Bla.out
      have xa0 := cellsAt Bla.out 0
      have xa1 := cellsAt Bla.out 1
      have xa2 := cellsAt Bla.out 2
      have fa := frozAt Bla.out
      simp at xa0 xa1 xa2
      have zb := blk_lt Blb.out
      have xb0 := cellsAt Blb.out 0
      have xb1 := cellsAt Blb.out 1
      have xb2 := cellsAt Blb.out 2
      have fb := frozAt Blb.out
      simp at xb0 xb1 xb2
      go_wp2_with fail
      refine (like_same _ _ _ _ Ka.out Kb.out).mono ?_
      rintro e w35 ⟨rfl, hb36⟩
      clear za fa xa0 xa1 xa2 zb fb xb0 xb1 xb2
      have Z := Lib.hid (heap_below Bls.out hb36)
      clear Bls
      have Bls := Z
      clear Z
      have Z := Lib.hid (heap_below Bla.out hb36)
      clear Bla
      have Bla := Z
      clear Z
      have Z := Lib.hid (heap_below Blb.out hb36)
      clear Blb
      have Blb := Z
      clear Z
      have Z := Lib.hid (heap_below Blc.out hb36)
      clear Blc
      have Blc := Z
      clear Z
      have Z := Lib.hid (StAt.below Kp.out hb36)
      clear Kp
      have Kp := Z
      clear Z
      have Z := Lib.hid (StAt.below Ka.out hb36)
      clear Ka
      have Ka := Z
      clear Z
      have Z := Lib.hid (StAt.below Kb.out hb36)
      clear Kb
      have Kb := Z
      clear Z
      have Z := Lib.hid (StAt.below Kc.out hb36)
      clear Kc
      have Kc := Z
      clear Z
      have BB37 := Lib.hid (bThen BB34.out hb36)
      clear hb36
      have za := blk_lt Bla.out
      have xa0 := cellsAt Bla.out 0
      have xa1 := cellsAt Bla.out 1
      have xa2 := cellsAt Bla.out 2
      have fa := frozAt Bla.out
      simp at xa0 xa1 xa2
      have zc := blk_lt Blc.out
      have xc0 := cellsAt Blc.out 0
      have xc1 := cellsAt Blc.out 1
      have xc2 := cellsAt Blc.out 2
      have fc := frozAt Blc.out
      simp at xc0 xc1 xc2
      go_wp2_with fail
      refine (like_same _ _ _ _ Ka.out Kc.out).mono ?_
      rintro e w38 ⟨rfl, hb39⟩
      clear za fa xa0 xa1 xa2 zc fc xc0 xc1 xc2
      have Z := Lib.hid (heap_below Bls.out hb39)
      clear Bls
      have Bls := Z
      clear Z
      have Z := Lib.hid (heap_below Bla.out hb39)
      clear Bla
      have Bla := Z
      clear Z
      have Z := Lib.hid (heap_below Blb.out hb39)
      clear Blb
      have Blb := Z
      clear Z
      have Z := Lib.hid (heap_below Blc.out hb39)
      clear Blc
      have Blc := Z
      clear Z
      have Z := Lib.hid (StAt.below Kp.out hb39)
      clear Kp
      have Kp := Z
      clear Z
      have Z := Lib.hid (StAt.below Ka.out hb39)
      clear Ka
      have Ka := Z
      clear Z
      have Z := Lib.hid (StAt.below Kb.out hb39)
      clear Kb
      have Kb := Z
      clear Z
      have Z := Lib.hid (StAt.below Kc.out hb39)
      clear Kc
      have Kc := Z
      clear Z
      have BB40 := Lib.hid (bThen BB37.out hb39)
      clear hb39
      obtain rfl : n2a = 0 := Ea.out.2
      have za := blk_lt Bla.out
      have xa0 := cellsAt Bla.out 0
      have xa1 := cellsAt Bla.out 1
      have xa2 := cellsAt Bla.out 2
      have fa := frozAt Bla.out
      simp at xa0 xa1 xa2
      have zs := blk_lt Bls.out
      have xs0 := cellsAt Bls.out 0
      have xs1 := cellsAt Bls.out 1
      have xs2 := cellsAt Bls.out 2
      have fs := frozAt Bls.out
      simp at xs0 xs1 xs2
      go_wp2_with fail
      refine (likeC_same s.c _ _ _ Ka.out.rows.1.1 Kp.out.rows.1.1 Kp.out.rows.1.2.2).mono ?_
      rintro e wz ⟨rfl, hbz⟩
      clear za fa xa0 xa1 xa2 zs fs xs0 xs1 xs2
      go_wp2_with fail
      go_ret
      exact ⟨rfl, bThen BB40.out hbz⟩
set_option maxRecDepth 100000 in
set_option maxHeartbeats 4000000 in
theorem reads_walk (s : St) (x : Cl) (hx : x.Ok) (v : Value) (w : World) (hs : StIn w v s) :
    Calls Try.prog 7 #[v, .string x.n, .string x.b] w fun e w' => e = .returned (.bool true) ∧ Below w.heap.size w w' := by
  have HS := Lib.hid hs
  obtain ⟨A, c, A', c', rfl⟩ := hs.form
  have HSM := Lib.hid (fun W h q hq => small_any s (.agg #[.slice A s.c.length c, .slice A' s.f.length c', .bool s.d]) W h q hq)
  have HRT := Lib.hid (fun W h1 h2 q hq => sright_any s.c s.f s.d (.slice A s.c.length c) (.slice A' s.f.length c') W h1 h2 q hq)
  have HAL := Lib.hid alive_any
  obtain ⟨q, hq⟩ : ∃ q, smallS s = q := ⟨_, rfl⟩
  have HQ := Lib.hid hq
  obtain ⟨rq, hrq⟩ : ∃ q, rightB s.c s.f = q := ⟨_, rfl⟩
  have HRQ := Lib.hid hrq
  obtain ⟨m, hm⟩ : ∃ m, s.c.length = m := ⟨_, rfl⟩
  obtain ⟨m2, hm2⟩ : ∃ m, s.f.length = m := ⟨_, rfl⟩
  obtain ⟨d, hd⟩ : ∃ d, s.d = d := ⟨_, rfl⟩
  rw [hm, hm2, hd] at HS HSM HRT ⊢
  have Hm := Lib.hid hm
  have Hm2 := Lib.hid hm2
  have Hd := Lib.hid hd
  clear hs hq hrq hm hm2 hd
  go_enter Try.func7, Try.ntmps7
  go_wp2_with fail
  have KI := HS
  obtain ⟨W1, hW2⟩ : ∃ X, X = (w).alloc (.cells #[.slice A m c, .slice A' m2 c', .bool d] 24) := ⟨_, rfl⟩
  rw [← hW2]
  have hb3 : Below w.heap.size w W1 := by rw [hW2]; exact bel_alloc (Below.refl _ _) _
  have Ns := Lib.hid (show W1.heap[w.heap.size]? = some (.cells #[.slice A m c, .slice A' m2 c', .bool d] 24 (0, 0)) by rw [hW2]; exact heap_at (w) _ (w.heap.size) (by simp))
  clear hW2
  have BB4 := Lib.hid hb3
  clear hb3
  have Bls := Ns
  clear Ns
  have Z := Lib.hid (StIn.below KI.out BB4.out)
  clear KI
  have KI := Z
  clear Z
  refine (HSM.out _ KI.out q HQ.out).mono ?_
  rintro e w5 ⟨rfl, hb6⟩
  have Z := Lib.hid (heap_below Bls.out hb6)
  clear Bls
  have Bls := Z
  clear Z
  have Z := Lib.hid (StIn.below KI.out hb6)
  clear KI
  have KI := Z
  clear Z
  have BB7 := Lib.hid (bThen BB4.out hb6)
  clear hb6
  have zs := blk_lt Bls.out
  have xs0 := cellsAt Bls.out 0
  have xs1 := cellsAt Bls.out 1
  have xs2 := cellsAt Bls.out 2
  have fs := frozAt Bls.out
  simp at xs0 xs1 xs2
  cases q with
  | false =>
    go_wp2_with fail
    refine (HAL.out _).mono ?_
    rintro e w8 ⟨rfl, hb9⟩
    clear zs fs xs0 xs1 xs2
    have Z := Lib.hid (heap_below Bls.out hb9)
    clear Bls
    have Bls := Z
    clear Z
    have Z := Lib.hid (StIn.below KI.out hb9)
    clear KI
    have KI := Z
    clear Z
    have BB10 := Lib.hid (bThen BB7.out hb9)
    clear hb9
    go_wp2_with fail
    go_ret
    exact ⟨rfl, BB10.out⟩
  | true =>
    have Kp := Lib.hid (KI.out.small HQ.out)
    clear KI
    go_wp2_with fail
    refine (HRT.out _ Kp.out.rows.1 Kp.out.rows.2 rq HRQ.out).mono ?_
    rintro e w8 ⟨rfl, hb9⟩
    clear zs fs xs0 xs1 xs2
    have Z := Lib.hid (heap_below Bls.out hb9)
    clear Bls
    have Bls := Z
    clear Z
    have Z := Lib.hid (StAt.below Kp.out hb9)
    clear Kp
    have Kp := Z
    clear Z
    have BB10 := Lib.hid (bThen BB7.out hb9)
    clear hb9
    have zs := blk_lt Bls.out
    have xs0 := cellsAt Bls.out 0
    have xs1 := cellsAt Bls.out 1
    have xs2 := cellsAt Bls.out 2
    have fs := frozAt Bls.out
    simp at xs0 xs1 xs2
    cases rq with
    | false =>
      go_wp2_with fail
      refine (HAL.out _).mono ?_
      rintro e w11 ⟨rfl, hb12⟩
      clear zs fs xs0 xs1 xs2
      have Z := Lib.hid (heap_below Bls.out hb12)
      clear Bls
      have Bls := Z
      clear Z
      have Z := Lib.hid (StAt.below Kp.out hb12)
      clear Kp
      have Kp := Z
      clear Z
      have BB13 := Lib.hid (bThen BB10.out hb12)
      clear hb12
      go_wp2_with fail
      go_ret
      exact ⟨rfl, BB13.out⟩
    | true =>
    cases d with
    | true =>
      go_wp2_with fail
      refine (HAL.out _).mono ?_
      rintro e w11 ⟨rfl, hb12⟩
      clear zs fs xs0 xs1 xs2
      have Z := Lib.hid (heap_below Bls.out hb12)
      clear Bls
      have Bls := Z
      clear Z
      have Z := Lib.hid (StAt.below Kp.out hb12)
      clear Kp
      have Kp := Z
      clear Z
      have BB13 := Lib.hid (bThen BB10.out hb12)
      clear hb12
      go_wp2_with fail
      go_ret
      exact ⟨rfl, BB13.out⟩
    | false =>
      by_cases h0 : 0 < m2
      · have t0 : decide (0 < (m2 : Int)) = true := by simp; omega
        have t0n : decide (0 < m2) = true := by simp; omega
        go_wp2_with fail
        refine (HAL.out _).mono ?_
        rintro e w11 ⟨rfl, hb12⟩
        clear zs fs xs0 xs1 xs2
        have Z := Lib.hid (heap_below Bls.out hb12)
        clear Bls
        have Bls := Z
        clear Z
        have Z := Lib.hid (StAt.below Kp.out hb12)
        clear Kp
        have Kp := Z
        clear Z
        have BB13 := Lib.hid (bThen BB10.out hb12)
        clear hb12
        go_wp2_with fail
        go_ret
        exact ⟨rfl, BB13.out⟩
      · have hfn : s.f = [] := List.eq_nil_of_length_eq_zero (by rw [Hm2.out]; omega)
        obtain rfl : m2 = 0 := by omega
        clear h0
        obtain ⟨r0, hr0⟩ : ∃ r, readS s x.n = r := ⟨_, rfl⟩
        have HRD := Lib.hid (fun v W h => read_any s x.n v W h)
        unfold RdTo at HRD
        rw [hr0] at HRD
        obtain ⟨rb, re⟩ := r0
        simp only at HRD
        obtain ⟨bm, hbm⟩ : ∃ b, mayC x = b := ⟨_, rfl⟩
        go_wp2_with fail
        refine (HAL.out _).mono ?_
        rintro e w11 ⟨rfl, hb12⟩
        clear zs fs xs0 xs1 xs2
        have Z := Lib.hid (heap_below Bls.out hb12)
        clear Bls
        have Bls := Z
        clear Z
        have Z := Lib.hid (StAt.below Kp.out hb12)
        clear Kp
        have Kp := Z
        clear Z
        have BB13 := Lib.hid (bThen BB10.out hb12)
        clear hb12
        have zs := blk_lt Bls.out
        have xs0 := cellsAt Bls.out 0
        have xs1 := cellsAt Bls.out 1
        have xs2 := cellsAt Bls.out 2
        have fs := frozAt Bls.out
        simp at xs0 xs1 xs2
        go_wp2_with fail
        refine (HRD.out _ _ Kp.out).mono ?_
        rintro e w14 ⟨rfl, hb15⟩
        clear zs fs xs0 xs1 xs2
        have Z := Lib.hid (heap_below Bls.out hb15)
        clear Bls
        have Bls := Z
        clear Z
        have Z := Lib.hid (StAt.below Kp.out hb15)
        clear Kp
        have Kp := Z
        clear Z
        have BB16 := Lib.hid (bThen BB13.out hb15)
        clear hb15
        have zs := blk_lt Bls.out
        have xs0 := cellsAt Bls.out 0
        have xs1 := cellsAt Bls.out 1
        have xs2 := cellsAt Bls.out 2
        have fs := frozAt Bls.out
        simp at xs0 xs1 xs2
        cases bm with
        | false =>
          have HW := Lib.hid (fun v W h => st_to zS 1 (write_any s x hx v W h) (write_zero HRQ.out hbm))
          clear hbm hr0 hfn
          go_wp2_with fail
          refine (HW.out _ _ Kp.out).mono ?_
          rintro e w17 ⟨va, rfl, hka, hb18⟩
          clear zs fs xs0 xs1 xs2
          have Z := Lib.hid (heap_below Bls.out hb18)
          clear Bls
          have Bls := Z
          clear Z
          have Z := Lib.hid (StAt.below Kp.out hb18)
          clear Kp
          have Kp := Z
          clear Z
          have BB19 := Lib.hid (bThen BB16.out hb18)
          clear hb18
          have Ka := Lib.hid hka
          clear hka
          obtain ⟨A1a, n1a, c1a, A2a, n2a, c2a, rfl, e1, e2⟩ := Ka.out.form3
          have Ea := Lib.hid (And.intro e1 e2)
          clear e1 e2
          rw [show zS.d = false from rfl]
          go_upto_region 5 with fail
          obtain ⟨W20, hW21⟩ : ∃ X, X = (w17).alloc (.cells #[.slice A1a n1a c1a, .slice A2a n2a c2a, .bool false] 24) := ⟨_, rfl⟩
          rw [← hW21]
          have hb22 : Below w17.heap.size w17 W20 := by rw [hW21]; exact bel_alloc (Below.refl _ _) _
          have Na := Lib.hid (show W20.heap[w17.heap.size]? = some (.cells #[.slice A1a n1a c1a, .slice A2a n2a c2a, .bool false] 24 (0, 0)) by rw [hW21]; exact heap_at (w17) _ (w17.heap.size) (by simp))
          clear hW21
          have Z := Lib.hid (heap_below Bls.out hb22)
          clear Bls
          have Bls := Z
          clear Z
          have Z := Lib.hid (StAt.below Kp.out hb22)
          clear Kp
          have Kp := Z
          clear Z
          have Z := Lib.hid (StAt.below Ka.out hb22)
          clear Ka
          have Ka := Z
          clear Z
          have BB23 := Lib.hid (bThen BB19.out hb22)
          clear hb22
          have Bla := Na
          clear Na
          obtain rfl : n1a = 0 := Ea.out.1
          have za := blk_lt Bla.out
          have xa0 := cellsAt Bla.out 0
          have xa1 := cellsAt Bla.out 1
          have xa2 := cellsAt Bla.out 2
          have fa := frozAt Bla.out
          simp at xa0 xa1 xa2
          go_wp2_with fail
          go_ret
          exact ⟨rfl, BB23.out⟩
        | true =>
          obtain ⟨pa, pb, pc, pd⟩ := reads_plain HRQ.out Hd.out hfn hbm
          have hss : s = ⟨s.c, [], false⟩ := by rw [← hfn, ← Hd.out]
          rw [← hss] at pc
          have HW := Lib.hid (fun v W h => st_to ⟨s.c, [x], false⟩ 0 (write_any s x hx v W h) pa)
          have HR1 := Lib.hid (fun v W h => read_any ⟨s.c, [x], false⟩ x.n v W h)
          unfold RdTo at HR1
          rw [pb, hr0] at HR1
          simp only at HR1
          have HST := Lib.hid (fun v W h => st_to s 0 (start_any ⟨s.c, [x], false⟩ v W h) pc)
          clear pa pb pc hss hbm hr0 hfn
          go_wp2_with fail
          refine (HW.out _ _ Kp.out).mono ?_
          rintro e w17 ⟨va, rfl, hka, hb18⟩
          clear zs fs xs0 xs1 xs2
          have Z := Lib.hid (heap_below Bls.out hb18)
          clear Bls
          have Bls := Z
          clear Z
          have Z := Lib.hid (StAt.below Kp.out hb18)
          clear Kp
          have Kp := Z
          clear Z
          have BB19 := Lib.hid (bThen BB16.out hb18)
          clear hb18
          have Ka := Lib.hid hka
          clear hka
          obtain ⟨A1a, n1a, c1a, A2a, n2a, c2a, rfl, e1, e2⟩ := Ka.out.form3
          have Ea := Lib.hid (And.intro e1 e2)
          clear e1 e2
          go_upto_region 5 with fail
          obtain ⟨W20, hW21⟩ : ∃ X, X = (w17).alloc (.cells #[.slice A1a n1a c1a, .slice A2a n2a c2a, .bool false] 24) := ⟨_, rfl⟩
          rw [← hW21]
          have hb22 : Below w17.heap.size w17 W20 := by rw [hW21]; exact bel_alloc (Below.refl _ _) _
          have Na := Lib.hid (show W20.heap[w17.heap.size]? = some (.cells #[.slice A1a n1a c1a, .slice A2a n2a c2a, .bool false] 24 (0, 0)) by rw [hW21]; exact heap_at (w17) _ (w17.heap.size) (by simp))
          clear hW21
          have Z := Lib.hid (heap_below Bls.out hb22)
          clear Bls
          have Bls := Z
          clear Z
          have Z := Lib.hid (StAt.below Kp.out hb22)
          clear Kp
          have Kp := Z
          clear Z
          have Z := Lib.hid (StAt.below Ka.out hb22)
          clear Ka
          have Ka := Z
          clear Z
          have BB23 := Lib.hid (bThen BB19.out hb22)
          clear hb22
          have Bla := Na
          clear Na
          have za := blk_lt Bla.out
          have xa0 := cellsAt Bla.out 0
          have xa1 := cellsAt Bla.out 1
          have xa2 := cellsAt Bla.out 2
          have fa := frozAt Bla.out
          simp at xa0 xa1 xa2
          go_wp2_with fail
          refine (HR1.out _ _ Ka.out).mono ?_
          rintro e w24 ⟨rfl, hb25⟩
          clear za fa xa0 xa1 xa2
          have Z := Lib.hid (heap_below Bls.out hb25)
          clear Bls
          have Bls := Z
          clear Z
          have Z := Lib.hid (heap_below Bla.out hb25)
          clear Bla
          have Bla := Z
          clear Z
          have Z := Lib.hid (StAt.below Kp.out hb25)
          clear Kp
          have Kp := Z
          clear Z
          have Z := Lib.hid (StAt.below Ka.out hb25)
          clear Ka
          have Ka := Z
          clear Z
          have BB26 := Lib.hid (bThen BB23.out hb25)
          clear hb25
          have za := blk_lt Bla.out
          have xa0 := cellsAt Bla.out 0
          have xa1 := cellsAt Bla.out 1
          have xa2 := cellsAt Bla.out 2
          have fa := frozAt Bla.out
          simp at xa0 xa1 xa2
          go_wp2_with fail
          refine (HST.out _ _ Ka.out).mono ?_
          rintro e w27 ⟨vb, rfl, hkb, hb28⟩
          clear za fa xa0 xa1 xa2
          have Z := Lib.hid (heap_below Bls.out hb28)
          clear Bls
          have Bls := Z
          clear Z
          have Z := Lib.hid (heap_below Bla.out hb28)
          clear Bla
          have Bla := Z
          clear Z
          have Z := Lib.hid (StAt.below Kp.out hb28)
          clear Kp
          have Kp := Z
          clear Z
          have Z := Lib.hid (StAt.below Ka.out hb28)
          clear Ka
          have Ka := Z
          clear Z
          have BB29 := Lib.hid (bThen BB26.out hb28)
          clear hb28
          have Kb := Lib.hid hkb
          clear hkb
          obtain ⟨A1b, n1b, c1b, A2b, n2b, c2b, rfl, e1, e2⟩ := Kb.out.form3
          have Eb := Lib.hid (And.intro e1 e2)
          clear e1 e2
          rw [Hd.out]
          go_upto_region 11 with fail
          obtain ⟨W30, hW31⟩ : ∃ X, X = (w27).alloc (.cells #[.slice A1b n1b c1b, .slice A2b n2b c2b, .bool false] 24) := ⟨_, rfl⟩
          rw [← hW31]
          have hb32 : Below w27.heap.size w27 W30 := by rw [hW31]; exact bel_alloc (Below.refl _ _) _
          have Nb := Lib.hid (show W30.heap[w27.heap.size]? = some (.cells #[.slice A1b n1b c1b, .slice A2b n2b c2b, .bool false] 24 (0, 0)) by rw [hW31]; exact heap_at (w27) _ (w27.heap.size) (by simp))
          clear hW31
          have Z := Lib.hid (heap_below Bls.out hb32)
          clear Bls
          have Bls := Z
          clear Z
          have Z := Lib.hid (heap_below Bla.out hb32)
          clear Bla
          have Bla := Z
          clear Z
          have Z := Lib.hid (StAt.below Kp.out hb32)
          clear Kp
          have Kp := Z
          clear Z
          have Z := Lib.hid (StAt.below Ka.out hb32)
          clear Ka
          have Ka := Z
          clear Z
          have Z := Lib.hid (StAt.below Kb.out hb32)
          clear Kb
          have Kb := Z
          clear Z
          have BB33 := Lib.hid (bThen BB29.out hb32)
          clear hb32
          have Blb := Nb
          clear Nb
          have zb := blk_lt Blb.out
          have xb0 := cellsAt Blb.out 0
          have xb1 := cellsAt Blb.out 1
          have xb2 := cellsAt Blb.out 2
          have fb := frozAt Blb.out
          simp at xb0 xb1 xb2
          have zs := blk_lt Bls.out
          have xs0 := cellsAt Bls.out 0
          have xs1 := cellsAt Bls.out 1
          have xs2 := cellsAt Bls.out 2
          have fs := frozAt Bls.out
          simp at xs0 xs1 xs2
          have Kb2 := Lib.hid (by have h := Kb.out; rw [Hd.out] at h; exact h : StAt W30 (.agg #[.slice A1b n1b c1b, .slice A2b n2b c2b, .bool false]) s)
          go_wp2_with fail
          refine (like_same s _ _ _ Kb2.out Kp.out).mono ?_
          rintro e w34 ⟨rfl, hb35⟩
          clear zb fb xb0 xb1 xb2 zs fs xs0 xs1 xs2
          have Z := Lib.hid (heap_below Bls.out hb35)
          clear Bls
          have Bls := Z
          clear Z
          have Z := Lib.hid (heap_below Bla.out hb35)
          clear Bla
          have Bla := Z
          clear Z
          have Z := Lib.hid (heap_below Blb.out hb35)
          clear Blb
          have Blb := Z
          clear Z
          have Z := Lib.hid (StAt.below Kp.out hb35)
          clear Kp
          have Kp := Z
          clear Z
          have Z := Lib.hid (StAt.below Ka.out hb35)
          clear Ka
          have Ka := Z
          clear Z
          have Z := Lib.hid (StAt.below Kb.out hb35)
          clear Kb
          have Kb := Z
          clear Z
          have BB36 := Lib.hid (bThen BB33.out hb35)
          clear hb35
          have za := blk_lt Bla.out
          have xa0 := cellsAt Bla.out 0
          have xa1 := cellsAt Bla.out 1
          have xa2 := cellsAt Bla.out 2
          have fa := frozAt Bla.out
          simp at xa0 xa1 xa2
          go_wp2_with fail
          rcases pd with ⟨pd, h64⟩ | ⟨pd, pe⟩
          · have HCM := Lib.hid (fun v W h => st_to zS 3 (commit_any ⟨s.c, [x], false⟩ v W h) pd)
            rw [Hm.out] at h64
            have h64 := h64
            subst h64
            clear pd
            refine (HCM.out _ _ Ka.out).mono ?_
            rintro e w37 ⟨vc, rfl, hkc, hb38⟩
            clear za fa xa0 xa1 xa2
            have Z := Lib.hid (heap_below Bls.out hb38)
            clear Bls
            have Bls := Z
            clear Z
            have Z := Lib.hid (heap_below Bla.out hb38)
            clear Bla
            have Bla := Z
            clear Z
            have Z := Lib.hid (heap_below Blb.out hb38)
            clear Blb
            have Blb := Z
            clear Z
            have Z := Lib.hid (StAt.below Kp.out hb38)
            clear Kp
            have Kp := Z
            clear Z
            have Z := Lib.hid (StAt.below Ka.out hb38)
            clear Ka
            have Ka := Z
            clear Z
            have Z := Lib.hid (StAt.below Kb.out hb38)
            clear Kb
            have Kb := Z
            clear Z
            have BB39 := Lib.hid (bThen BB36.out hb38)
            clear hb38
            have Kc := Lib.hid hkc
            clear hkc
            obtain ⟨A1c, n1c, c1c, A2c, n2c, c2c, rfl, e1, e2⟩ := Kc.out.form3
            have Ec := Lib.hid (And.intro e1 e2)
            clear e1 e2
            rw [show zS.d = false from rfl]
            go_upto_region 14 with fail
            obtain ⟨W40, hW41⟩ : ∃ X, X = (w37).alloc (.cells #[.slice A1c n1c c1c, .slice A2c n2c c2c, .bool false] 24) := ⟨_, rfl⟩
            rw [← hW41]
            have hb42 : Below w37.heap.size w37 W40 := by rw [hW41]; exact bel_alloc (Below.refl _ _) _
            have Nc := Lib.hid (show W40.heap[w37.heap.size]? = some (.cells #[.slice A1c n1c c1c, .slice A2c n2c c2c, .bool false] 24 (0, 0)) by rw [hW41]; exact heap_at (w37) _ (w37.heap.size) (by simp))
            clear hW41
            have Z := Lib.hid (heap_below Bls.out hb42)
            clear Bls
            have Bls := Z
            clear Z
            have Z := Lib.hid (heap_below Bla.out hb42)
            clear Bla
            have Bla := Z
            clear Z
            have Z := Lib.hid (heap_below Blb.out hb42)
            clear Blb
            have Blb := Z
            clear Z
            have Z := Lib.hid (StAt.below Kp.out hb42)
            clear Kp
            have Kp := Z
            clear Z
            have Z := Lib.hid (StAt.below Ka.out hb42)
            clear Ka
            have Ka := Z
            clear Z
            have Z := Lib.hid (StAt.below Kb.out hb42)
            clear Kb
            have Kb := Z
            clear Z
            have Z := Lib.hid (StAt.below Kc.out hb42)
            clear Kc
            have Kc := Z
            clear Z
            have BB43 := Lib.hid (bThen BB39.out hb42)
            clear hb42
            have Blc := Nc
            clear Nc
            have zs := blk_lt Bls.out
            have xs0 := cellsAt Bls.out 0
            have xs1 := cellsAt Bls.out 1
            have xs2 := cellsAt Bls.out 2
            have fs := frozAt Bls.out
            simp at xs0 xs1 xs2
            go_wp2_with fail
            go_ret
            exact ⟨rfl, BB43.out⟩
          · have HCM := Lib.hid (fun v W h => st_to ⟨withL s.c x, [], false⟩ 0 (commit_any ⟨s.c, [x], false⟩ v W h) pd)
            have HR2 := Lib.hid (fun v W h => read_any ⟨withL s.c x, [], false⟩ x.n v W h)
            unfold RdTo at HR2
            rw [pe] at HR2
            clear pd pe
            refine (HCM.out _ _ Ka.out).mono ?_
            rintro e w37 ⟨vc, rfl, hkc, hb38⟩
            clear za fa xa0 xa1 xa2
            have Z := Lib.hid (heap_below Bls.out hb38)
            clear Bls
            have Bls := Z
            clear Z
            have Z := Lib.hid (heap_below Bla.out hb38)
            clear Bla
            have Bla := Z
            clear Z
            have Z := Lib.hid (heap_below Blb.out hb38)
            clear Blb
            have Blb := Z
            clear Z
            have Z := Lib.hid (StAt.below Kp.out hb38)
            clear Kp
            have Kp := Z
            clear Z
            have Z := Lib.hid (StAt.below Ka.out hb38)
            clear Ka
            have Ka := Z
            clear Z
            have Z := Lib.hid (StAt.below Kb.out hb38)
            clear Kb
            have Kb := Z
            clear Z
            have BB39 := Lib.hid (bThen BB36.out hb38)
            clear hb38
            have Kc := Lib.hid hkc
            clear hkc
            obtain ⟨A1c, n1c, c1c, A2c, n2c, c2c, rfl, e1, e2⟩ := Kc.out.form3
            have Ec := Lib.hid (And.intro e1 e2)
            clear e1 e2
            go_upto_region 14 with fail
            obtain ⟨W40, hW41⟩ : ∃ X, X = (w37).alloc (.cells #[.slice A1c n1c c1c, .slice A2c n2c c2c, .bool false] 24) := ⟨_, rfl⟩
            rw [← hW41]
            have hb42 : Below w37.heap.size w37 W40 := by rw [hW41]; exact bel_alloc (Below.refl _ _) _
            have Nc := Lib.hid (show W40.heap[w37.heap.size]? = some (.cells #[.slice A1c n1c c1c, .slice A2c n2c c2c, .bool false] 24 (0, 0)) by rw [hW41]; exact heap_at (w37) _ (w37.heap.size) (by simp))
            clear hW41
            have Z := Lib.hid (heap_below Bls.out hb42)
            clear Bls
            have Bls := Z
            clear Z
            have Z := Lib.hid (heap_below Bla.out hb42)
            clear Bla
            have Bla := Z
            clear Z
            have Z := Lib.hid (heap_below Blb.out hb42)
            clear Blb
            have Blb := Z
            clear Z
            have Z := Lib.hid (StAt.below Kp.out hb42)
            clear Kp
            have Kp := Z
            clear Z
            have Z := Lib.hid (StAt.below Ka.out hb42)
            clear Ka
            have Ka := Z
            clear Z
            have Z := Lib.hid (StAt.below Kb.out hb42)
            clear Kb
            have Kb := Z
            clear Z
            have Z := Lib.hid (StAt.below Kc.out hb42)
            clear Kc
            have Kc := Z
            clear Z
            have BB43 := Lib.hid (bThen BB39.out hb42)
            clear hb42
            have Blc := Nc
            clear Nc
            have zc := blk_lt Blc.out
            have xc0 := cellsAt Blc.out 0
            have xc1 := cellsAt Blc.out 1
            have xc2 := cellsAt Blc.out 2
            have fc := frozAt Blc.out
            simp at xc0 xc1 xc2
            go_wp2_with fail
            obtain ⟨z, hz⟩ : ∃ z, noB x.b = z := ⟨_, rfl⟩
            rw [hz] at HR2
            unfold noB at hz
            cases z with
            | true =>
              simp only [if_true] at HR2
              refine (HR2.out _ _ Kc.out).mono ?_
              rintro e w44 ⟨rfl, hb45⟩
              clear zc fc xc0 xc1 xc2
              have Z := Lib.hid (heap_below Bls.out hb45)
              clear Bls
              have Bls := Z
              clear Z
              have Z := Lib.hid (heap_below Bla.out hb45)
              clear Bla
              have Bla := Z
              clear Z
              have Z := Lib.hid (heap_below Blb.out hb45)
              clear Blb
              have Blb := Z
              clear Z
              have Z := Lib.hid (heap_below Blc.out hb45)
              clear Blc
              have Blc := Z
              clear Z
              have Z := Lib.hid (StAt.below Kp.out hb45)
              clear Kp
              have Kp := Z
              clear Z
              have Z := Lib.hid (StAt.below Ka.out hb45)
              clear Ka
              have Ka := Z
              clear Z
              have Z := Lib.hid (StAt.below Kb.out hb45)
              clear Kb
              have Kb := Z
              clear Z
              have Z := Lib.hid (StAt.below Kc.out hb45)
              clear Kc
              have Kc := Z
              clear Z
              have BB46 := Lib.hid (bThen BB43.out hb45)
              clear hb45
              go_wp2_with fail
              go_ret
              exact ⟨rfl, BB46.out⟩
            | false =>
              simp only [Bool.false_eq_true, if_false] at HR2
              refine (HR2.out _ _ Kc.out).mono ?_
              rintro e w44 ⟨rfl, hb45⟩
              clear zc fc xc0 xc1 xc2
              have Z := Lib.hid (heap_below Bls.out hb45)
              clear Bls
              have Bls := Z
              clear Z
              have Z := Lib.hid (heap_below Bla.out hb45)
              clear Bla
              have Bla := Z
              clear Z
              have Z := Lib.hid (heap_below Blb.out hb45)
              clear Blb
              have Blb := Z
              clear Z
              have Z := Lib.hid (heap_below Blc.out hb45)
              clear Blc
              have Blc := Z
              clear Z
              have Z := Lib.hid (StAt.below Kp.out hb45)
              clear Kp
              have Kp := Z
              clear Z
              have Z := Lib.hid (StAt.below Ka.out hb45)
              clear Ka
              have Ka := Z
              clear Z
              have Z := Lib.hid (StAt.below Kb.out hb45)
              clear Kb
              have Kb := Z
              clear Z
              have Z := Lib.hid (StAt.below Kc.out hb45)
              clear Kc
              have Kc := Z
              clear Z
              have BB46 := Lib.hid (bThen BB43.out hb45)
              clear hb45
              go_wp2_with fail
              go_ret
              exact ⟨rfl, BB46.out⟩
end Go.Proofs.Ytlboehpgpbchhaa
