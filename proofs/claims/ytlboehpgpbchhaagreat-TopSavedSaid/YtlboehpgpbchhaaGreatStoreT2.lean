/-
  WALKS: the texts -StoreW1, -StoreW2, -StoreW3, -StoreW4, -StoreW5, StoreW6, StoreW7, but for what speaks of functions that are not here (progonly.py).
-/
import Derived.Test.YtlboehpgpbchhaaGreatStoreT1
set_option linter.unusedVariables false
set_option linter.unusedSimpArgs false

namespace Go.Proofs.YtlboehpgpbchhaaGreat.Sto
open Go.RowKit
/-- A store. -/
structure St where
  c : List Cl
  f : List Cl
  d : Bool
def zS : St := ⟨[], [], false⟩
theorem OkRow.below {W W' : World} {v : Value} {l : List Cl} (h : OkRow W v l) (hb : Below W.heap.size W W') : OkRow W' v l := ⟨h.1.below hb, h.2⟩
def StAt (W : World) (v : Value) (s : St) : Prop := ∃ vc vf, v = .agg #[vc, vf, .bool s.d] ∧ OkRow W vc s.c ∧ OkRow W vf s.f
theorem StAt.below {W W' : World} {v : Value} {s : St} (h : StAt W v s) (hb : Below W.heap.size W W') : StAt W' v s := by
  obtain ⟨vc, vf, e, h1, h2⟩ := h
  exact ⟨vc, vf, e, h1.below hb, h2.below hb⟩
theorem OkRow.none_ (W : World) : OkRow W (.slice none 0 0) [] := ⟨Row.none_, by simp, by simp⟩
theorem zS_at (W : World) : StAt W (.agg #[.slice none 0 0, .slice none 0 0, .bool false]) zS := ⟨_, _, rfl, OkRow.none_ W, OkRow.none_ W⟩
theorem StAt.form {W : World} {v : Value} {s : St} (h : StAt W v s) : ∃ A1 c1 A2 c2, v = .agg #[.slice A1 s.c.length c1, .slice A2 s.f.length c2, .bool s.d] ∧ OkRow W (.slice A1 s.c.length c1) s.c ∧ OkRow W (.slice A2 s.f.length c2) s.f := by
  obtain ⟨vc, vf, e, h1, h2⟩ := h
  obtain ⟨A1, c1, rfl, -⟩ := h1.1
  obtain ⟨A2, c2, rfl, -⟩ := h2.1
  exact ⟨A1, c1, A2, c2, e, h1, h2⟩
/-- A call answers a store and an error. -/
def StTo (r : St × Int) (w : World) (e : Ending) (w' : World) : Prop := ∃ v, e = .returned (.tuple #[v, .int .i64 r.2]) ∧ StAt w' v r.1 ∧ Below w.heap.size w w'
def commitS (s : St) : St × Int := if rightB s.c s.f = true then (if s.d = true then (zS, 170) else if 64 < (countL s.c s.f).length then (zS, 3) else (⟨countL s.c s.f, [], false⟩, 0)) else (zS, 1)
def startS (s : St) : St × Int := if rightB s.c s.f = true then (⟨s.c, [], false⟩, 0) else (zS, 1)
def getS (l : List Cl) (t : ByteArray) : Option ByteArray := (l.find? (fun c => eqB c.n t)).map Cl.b
def readS (s : St) (t : ByteArray) : ByteArray × Int := if rightB s.c s.f = true then (if s.d = true then (⟨#[]⟩, 170) else match getS s.c t with | some b => (b, 0) | none => (⟨#[]⟩, 171)) else (⟨#[]⟩, 1)
theorem mem_ok {l f : List Cl} (hl : ∀ x ∈ l, x.Ok) (hf : ∀ x ∈ f, x.Ok) (hs : Rise l) : ∀ x ∈ countL l f, x.Ok := by
  induction f generalizing l with
  | nil => exact hl
  | cons a f ih =>
    refine ih (l := withL l a) (fun x hx => ?_) (fun x hx => hf x (by simp [hx])) (with_rise hs)
    rcases with_mem hs hx with ⟨rfl, -⟩ | ⟨h, -⟩
    · exact hf _ (by simp)
    · exact hl x h
theorem getS_at {l : List Cl} {t : ByteArray} {i : Nat} (h : atS l t i) (hi : i ≤ l.length) : getS l t = if fndS l i t = true then (l[i]?).map Cl.b else if fndS l i t = true then none else getS (l.drop i) t := by
  unfold getS
  conv => lhs; rw [← List.take_append_drop i l]
  rw [List.find?_append]
  have h1 : (l.take i).find? (fun c => eqB c.n t) = none := by
    rw [List.find?_eq_none]
    intro x hx
    rw [eqB_no.2 (ltS_ne (h.1 x hx))]
    simp
  rw [h1, Option.none_or]
  cases hf : fndS l i t with
  | false => simp
  | true =>
    unfold fndS at hf
    cases hx : l[i]? with
    | none => rw [hx] at hf; cases hf
    | some x =>
      rw [hx] at hf
      obtain ⟨h2, h3⟩ := List.getElem?_eq_some_iff.1 hx
      have hf2 : eqB x.n t = true := hf
      rw [drop_at h2, h3, List.find?_cons, hf2]
      simp
theorem get_at {l : List Cl} {t : ByteArray} {i : Nat} (hs : Rise l) (h : atS l t i) (hi : i ≤ l.length) : getS l t = if fndS l i t = true then (l[i]?).map Cl.b else none := by
  rw [getS_at h hi]
  cases hf : fndS l i t with
  | true => simp
  | false =>
    simp only [Bool.false_eq_true, if_false]
    unfold getS
    rw [Option.map_eq_none_iff, List.find?_eq_none]
    intro x hx
    by_cases hlt : i < l.length
    · have hd := drop_at hlt
      have hge : ltS l[i].n t = false := h.2 _ (by rw [hd]; exact List.mem_cons_self)
      have hq : eqB l[i].n t = false := by
        unfold fndS at hf; rw [List.getElem?_eq_getElem hlt] at hf; exact hf
      rw [hd] at hx
      rcases List.mem_cons.1 hx with rfl | hx
      · rw [hq]; simp
      · have hr := rise_drop hs i
        rw [hd] at hr
        have h1 := (List.pairwise_cons.1 hr).1 x hx
        intro e
        rw [eqB_iff] at e
        rw [e] at h1
        rw [ltS_tot hge (ltS_asym h1), eqB_refl] at hq
        cases hq
    · rw [List.drop_eq_nil_of_le (by omega)] at hx; simp at hx
theorem set3 {w : World} {g : Nat} {x0 x1 x2 : Value} {T : TypeId} (h : w.heap[g]? = some (.cells #[x0, x1, x2] T (0, 0))) (a b c : Value) :
    (((w.setCell ⟨g, 0, none⟩ a).setCell ⟨g, 1, none⟩ b).setCell ⟨g, 2, none⟩ c).heap[g]? = some (.cells #[a, b, c] T (0, 0)) := by
  have h1 := blk_set h 0 a
  have h2 := blk_set h1 1 b
  have h3 := blk_set h2 2 c
  simpa using h3
theorem bel3 {w w1 : World} {n : Nat} (B : Below n w w1) {g : Nat} (hg : n ≤ g) (a b c : Value) : Below n w (((w1.setCell ⟨g, 0, none⟩ a).setCell ⟨g, 1, none⟩ b).setCell ⟨g, 2, none⟩ c) :=
  ((B.setCell (p := ⟨g, 0, none⟩) hg a).setCell (p := ⟨g, 1, none⟩) hg b).setCell (p := ⟨g, 2, none⟩) hg c
theorem own3 {w1 : World} {base : Nat} {e : TypeId} {size n : Nat} {v : Value} {xs : List Value} (h : w1.ownsRow base e size v n xs) {g : Nat} (hg : g < base) (a b c : Value) :
    (((w1.setCell ⟨g, 0, none⟩ a).setCell ⟨g, 1, none⟩ b).setCell ⟨g, 2, none⟩ c).ownsRow base e size v n xs :=
  own_set (own_set (own_set h (p := ⟨g, 0, none⟩) hg a) (p := ⟨g, 1, none⟩) hg b) (p := ⟨g, 2, none⟩) hg c
def CmRel (l f : List Cl) (W4 : World) (v i : Value) (wr : World) : Prop :=
  ∃ k : Nat, k ≤ f.length ∧ i = .int .i64 k ∧ OwnC W4.heap.size wr v (countL l (f.take k)) ∧ Below W4.heap.size W4 wr
theorem take_snoc {α : Type} {l : List α} {k : Nat} {x : α} (h : l[k]? = some x) : l.take (k + 1) = l.take k ++ [x] := by
  rw [List.take_add_one, h]; rfl
set_option maxRecDepth 100000 in
set_option maxHeartbeats 4000000 in
theorem commit_any (s : St) (v : Value) (w : World) (hs : StAt w v s) :
    Calls Tryz.prog 77 #[v] w (StTo (commitS s) w) := by
  have HS := Lib.hid hs
  obtain ⟨lc, lf, d⟩ := s
  obtain ⟨A, c, A', c', rfl, hv, hu⟩ := hs.form
  simp only at hv hu
  have RL := Lib.hid hv.1
  have RF := Lib.hid hu.1
  have OKL := Lib.hid hv.2.1
  have OKF := Lib.hid hu.2.1
  have hl := hv.2.2
  have hl2 := hu.2.2
  have HV := Lib.hid hv
  have HU := Lib.hid hu
  obtain ⟨m, hm⟩ : ∃ m, lc.length = m := ⟨_, rfl⟩
  obtain ⟨m2, hm2⟩ : ∃ m, lf.length = m := ⟨_, rfl⟩
  obtain ⟨R, hR⟩ : ∃ R, commitS ⟨lc, lf, d⟩ = R := ⟨_, rfl⟩
  rw [hR]
  have HR := Lib.hid hR
  simp only at HV HU ⊢
  rw [hm] at RL HV hl ⊢
  rw [hm2] at RF HU hl2 ⊢
  have Hm := Lib.hid hm
  have Hm2 := Lib.hid hm2
  obtain ⟨r, hr⟩ : ∃ r, readyE lc lf d = r := ⟨_, rfl⟩
  have HD := Lib.hid (fun W h1 h2 => ready_any lc lf d (.slice A m c) (.slice A' m2 c') W h1 h2 r hr)
  have HRD := Lib.hid hr
  have HCL := Lib.hid (fun W (h : Row Cl.cs 2 W (.slice A m c) lc) => clone_any lc _ W h (by omega))
  clear hm hm2 hv hu hR hr hs
  unfold StTo
  go_enter Tryz.func77, Tryz.ntmps77
  go_wp2_with fail
  obtain ⟨W1, hW2⟩ : ∃ X, X = ((w).alloc (.cells #[.slice A m c, .slice A' m2 c', .bool d] 60)).alloc (.cells #[.slice none 0 0, .slice none 0 0, .bool false] 60) := ⟨_, rfl⟩
  rw [← hW2]
  have hb3 : Below w.heap.size w W1 := by rw [hW2]; exact bel_alloc (bel_alloc (Below.refl _ _) _) _
  have Ns := Lib.hid (show W1.heap[w.heap.size]? = some (.cells #[.slice A m c, .slice A' m2 c', .bool d] 60 (0, 0)) by rw [hW2]; exact heap_below (heap_at (w) _ (w.heap.size) (by simp)) (bel_alloc (Below.refl _ _) _))
  have Nz := Lib.hid (show W1.heap[w.heap.size + 1]? = some (.cells #[.slice none 0 0, .slice none 0 0, .bool false] 60 (0, 0)) by rw [hW2]; exact heap_at ((w).alloc (.cells #[.slice A m c, .slice A' m2 c', .bool d] 60)) _ (w.heap.size + 1) (by simp))
  clear hW2
  have BB4 := Lib.hid hb3
  clear hb3
  have Bls := Ns
  clear Ns
  have Blz := Nz
  clear Nz
  have R1 := Lib.hid (HV.out.below BB4.out)
  have R2 := Lib.hid (HU.out.below BB4.out)
  refine (HD.out _ R1.out R2.out).mono ?_
  rintro e w5 ⟨rfl, hb6⟩
  have Z := Lib.hid (heap_below Bls.out hb6)
  clear Bls
  have Bls := Z
  clear Z
  have Z := Lib.hid (heap_below Blz.out hb6)
  clear Blz
  have Blz := Z
  clear Z
  have Z := Lib.hid (OkRow.below R1.out hb6)
  clear R1
  have R1 := Z
  clear Z
  have Z := Lib.hid (OkRow.below R2.out hb6)
  clear R2
  have R2 := Z
  clear Z
  have BB7 := Lib.hid (bThen BB4.out hb6)
  clear hb6
  have zs := blk_lt Bls.out
  have xs0 := cellsAt Bls.out 0
  have xs1 := cellsAt Bls.out 1
  have xs2 := cellsAt Bls.out 2
  have fs := frozAt Bls.out
  simp at xs0 xs1 xs2
  have zz := blk_lt Blz.out
  have xz0 := cellsAt Blz.out 0
  have xz1 := cellsAt Blz.out 1
  have xz2 := cellsAt Blz.out 2
  have fz := frozAt Blz.out
  simp at xz0 xz1 xz2
  by_cases h0 : r = 0
  · subst h0
    have HRT := Lib.hid (show rightB lc lf = true ∧ d = false by have h := HRD.out; unfold readyE at h; split at h <;> (try split at h) <;> simp_all)
    have HRC := Lib.hid (right_iff.1 HRT.out.1)
    have hm64 : m ≤ 64 := by rw [← Hm.out]; exact HRC.out.len
    have hm264 : m2 ≤ 64 := by rw [← Hm2.out]; exact HRC.out.flen
    have HR2 := Lib.hid (show (if 64 < (countL lc lf).length then (zS, (3 : Int)) else (⟨countL lc lf, [], false⟩, 0)) = R by rw [← HR.out]; unfold commitS; rw [if_pos HRT.out.1]; simp only; rw [if_neg (show ¬ d = true by rw [HRT.out.2]; simp)])
    go_wp2_with fail
    refine (HCL.out _ R1.out.1).mono ?_
    rintro e w8 ⟨v4, rfl, ho4, hb4⟩
    clear zs fs xs0 xs1 xs2 zz fz xz0 xz1 xz2
    have HO4 := Lib.hid ho4
    have B4 := Lib.hid hb4
    obtain ⟨A4, c4, rfl⟩ := own_slice ho4
    clear ho4
    have BlsC := Bls
    have BlzC := Blz
    have R2C := R2
    have BBC := BB7
    have Z := Lib.hid (heap_below Bls.out hb4)
    clear Bls
    have Bls := Z
    clear Z
    have Z := Lib.hid (heap_below Blz.out hb4)
    clear Blz
    have Blz := Z
    clear Z
    have Z := Lib.hid (OkRow.below R1.out hb4)
    clear R1
    have R1 := Z
    clear Z
    have Z := Lib.hid (OkRow.below R2.out hb4)
    clear R2
    have R2 := Z
    clear Z
    have BB9 := Lib.hid (bThen BB7.out hb4)
    clear hb4
    have zs := blk_lt Bls.out
    have xs0 := cellsAt Bls.out 0
    have xs1 := cellsAt Bls.out 1
    have xs2 := cellsAt Bls.out 2
    have fs := frozAt Bls.out
    simp at xs0 xs1 xs2
    go_wp2_with fail
    clear zs fs xs0 xs1 xs2
    have hzc : w.heap.size + 2 ≤ w5.heap.size := by have := blk_lt BlzC.out; omega
    go_loopw [5, 20] (fun v i wr => CmRel lc lf w5 v i wr) (fun _ i _ => m2 - (intOf i).toNat)
    case atStart => exact ⟨0, Nat.zero_le _, rfl, HO4.out, B4.out⟩
    case round =>
      clear Bls Blz R1 R2 BB9 HO4 B4
      obtain ⟨k, hk, rfl, hok, hbk⟩ := hrel
      rw [Hm2.out] at hk
      obtain ⟨A5, c5, rfl⟩ := own_slice hok
      have HOK := Lib.hid hok
      have HBK := Lib.hid hbk
      have Bls := Lib.hid (heap_below BlsC.out hbk)
      have Blz := Lib.hid (heap_below BlzC.out hbk)
      have R2 := Lib.hid (R2C.out.below hbk)
      have BB0 := Lib.hid (bThen BBC.out hbk)
      have hszk := hbk.size
      clear hok hbk
      have HRK := Lib.hid (count_rise (f := lf.take k) HRC.out.rise)
      have HLK : (countL lc (lf.take k)).length ≤ 200 := by have h := count_len (f := lf.take k) HRC.out.rise; rw [Hm.out, List.length_take] at h; omega
      by_cases hlt : k < m2
      · obtain ⟨x, hi⟩ : ∃ x, lf[k]? = some x := ⟨_, List.getElem?_eq_getElem (by rw [Hm2.out]; exact hlt)⟩
        have HX := Lib.hid hi
        obtain ⟨b1, o1, c6, e', hc', hb1, hX⟩ := R2.out.1.at_ hi
        injection e' with e1 e2 e3
        clear e2
        subst e1 e3
        have k0 := hX 0 _ rfl
        have k1 := hX 1 _ rfl
        clear hX hi
        simp only [Nat.add_zero] at k0 k1
        have HW := Lib.hid (fun W (hb : Below w5.heap.size wr W) (hh : w5.heap.size ≤ W.heap.size) (ho : OwnC w5.heap.size W (.slice A5 (countL lc (lf.take k)).length c5) _) => with_any w5.heap.size (countL lc (lf.take k)) x _ W ho hh (by omega) HRK.out)
        have HCN := Lib.hid (show countL lc (lf.take (k + 1)) = withL (countL lc (lf.take k)) x by rw [take_snoc HX.out, count_snoc])
        obtain ⟨L, hL⟩ : ∃ L, countL lc (lf.take k) = L := ⟨_, rfl⟩
        rw [hL] at HOK HW HCN ⊢
        clear HLK HRK hL
        obtain ⟨n5, hn5⟩ : ∃ n, L.length = n := ⟨_, rfl⟩
        rw [hn5] at HOK HW ⊢
        obtain ⟨xn, xb⟩ := x
        simp only at k0 k1 HW
        go_wp2_with fail
        refine (HW.out _ (((Below.refl _ _).alloc hszk _)) (by simp; omega) (by have h := own_below HOK.out (bel_alloc (Below.refl wr.heap.size wr) (.cells #[.string xn, .string xb] 64)); exact h)).mono ?_
        rintro e w10 ⟨v7, rfl, ho7, hb7⟩
        have HO7 := Lib.hid ho7
        have B7 := Lib.hid (show Below w5.heap.size w5 w10 from (HBK.out.alloc hszk _).trans hb7)
        clear ho7 hb7 k0 k1
        go_wp2_with fail
        go_roundw
        case rel => exact ⟨k + 1, by rw [Hm2.out]; omega, by go_num, by rw [HCN.out]; exact HO7.out, B7.out⟩
        case measure => simp [intOf]; omega
      · obtain rfl : k = m2 := by omega
        rw [show lf.take k = lf from List.take_of_length_le (by rw [Hm2.out]; exact Nat.le_refl _)] at *
        have HOC := HOK
        have HOR := Lib.hid (own_any HOK.out)
        obtain ⟨L, hL⟩ : ∃ L, countL lc lf = L := ⟨_, rfl⟩
        have HOKL := Lib.hid (show ∀ x ∈ L, x.Ok by rw [← hL]; exact mem_ok OKL.out OKF.out HRC.out.rise)
        rw [hL] at HOK HOR HR2 HLK HRK ⊢
        obtain ⟨n5, hn5⟩ : ∃ n, L.length = n := ⟨_, rfl⟩
        have HN5 := Lib.hid hn5
        rw [hn5] at HR2 HLK ⊢
        clear hL hn5 HOC
        have zz := blk_lt Blz.out
        have xz0 := cellsAt Blz.out 0
        have xz1 := cellsAt Blz.out 1
        have xz2 := cellsAt Blz.out 2
        have fz := frozAt Blz.out
        simp at xz0 xz1 xz2
        by_cases h64 : 64 < n5
        · have HRR := Lib.hid (show R = (zS, 3) by rw [← HR2.out, if_pos h64])
          have t64 : decide (64 < (n5 : Int)) = true := by simp; omega
          have t64n : decide (64 < n5) = true := by simp; omega
          go_wp2_with fail
          exact bodyPost_ret (v := .tuple #[.agg #[.slice none 0 0, .slice none 0 0, .bool false], .int .i64 3]) (by simp [results, Tryz.results77, go_sem, xz0, xz1, xz2]) rfl ⟨_, by rw [HRR.out], by rw [HRR.out]; exact zS_at _, bel3 BB0.out (by omega) _ _ _⟩
        · have HRR := Lib.hid (show R = (⟨L, [], false⟩, 0) by rw [← HR2.out, if_neg h64])
          have t64 : decide (64 < (n5 : Int)) = false := by simp; omega
          have t64n : decide (64 < n5) = false := by simp; omega
          rw [show (Value.slice A5 L.length c5) = .slice A5 n5 c5 by rw [HN5.out]] at HOK HOR
          go_wp2_with fail
          have Ez := set3 Blz.out (.slice A5 n5 c5) (.slice none 0 0) (.bool false)
          have e0 := cellsAt Ez 0
          have e1 := cellsAt Ez 1
          have e2 := cellsAt Ez 2
          simp at e0 e1 e2
          exact bodyPost_ret (v := .tuple #[.agg #[.slice A5 n5 c5, .slice none 0 0, .bool false], .int .i64 0]) (by simp [results, Tryz.results77, go_sem, e0, e1, e2]) rfl ⟨_, by rw [HRR.out], by rw [HRR.out]; exact ⟨_, _, rfl, ⟨own_any (own3 HOK.out (by omega) _ _ _), HOKL.out, by show L.length ≤ _; rw [HN5.out]; omega⟩, OkRow.none_ _⟩, bel3 BB0.out (by omega) _ _ _⟩
  · have h02 : (r != 0) = true := by simpa using h0
    have HRR := Lib.hid (show R = (zS, r) by rw [← HR.out, ← HRD.out]; have h := HRD.out; unfold readyE at h ⊢; unfold commitS; simp only; split <;> (try split) <;> simp_all)
    clear h0
    go_wp2_with fail
    exact bodyPost_ret (v := .tuple #[.agg #[.slice none 0 0, .slice none 0 0, .bool false], .int .i64 r]) (by simp [results, Tryz.results77, go_sem, xz0, xz1, xz2]) rfl ⟨_, by rw [HRR.out], by rw [HRR.out]; exact zS_at _, bel3 BB7.out (by omega) _ _ _⟩
set_option maxRecDepth 100000 in
set_option maxHeartbeats 4000000 in
theorem start_any (s : St) (v : Value) (w : World) (hs : StAt w v s) :
    Calls Tryz.prog 15 #[v] w (StTo (startS s) w) := by
  have HS := Lib.hid hs
  obtain ⟨lc, lf, d⟩ := s
  obtain ⟨A, c, A', c', rfl, hv, hu⟩ := hs.form
  simp only at hv hu
  have RL := Lib.hid hv.1
  have RF := Lib.hid hu.1
  have OKL := Lib.hid hv.2.1
  have OKF := Lib.hid hu.2.1
  have hl := hv.2.2
  have hl2 := hu.2.2
  have HV := Lib.hid hv
  have HU := Lib.hid hu
  obtain ⟨m, hm⟩ : ∃ m, lc.length = m := ⟨_, rfl⟩
  obtain ⟨m2, hm2⟩ : ∃ m, lf.length = m := ⟨_, rfl⟩
  obtain ⟨R, hR⟩ : ∃ R, startS ⟨lc, lf, d⟩ = R := ⟨_, rfl⟩
  rw [hR]
  have HR := Lib.hid hR
  simp only at HV HU ⊢
  rw [hm] at RL HV hl ⊢
  rw [hm2] at RF HU hl2 ⊢
  have Hm := Lib.hid hm
  have Hm2 := Lib.hid hm2
  obtain ⟨q, hq⟩ : ∃ q, rightB lc lf = q := ⟨_, rfl⟩
  have HD := Lib.hid (fun W h1 h2 => sright_any lc lf d (.slice A m c) (.slice A' m2 c') W h1 h2 q hq)
  have HQ := Lib.hid hq
  have HCL := Lib.hid (fun W (h : Row Cl.cs 2 W (.slice A m c) lc) => clone_any lc _ W h (by omega))
  clear hm hm2 hv hu hR hq hs
  unfold StTo
  go_enter Tryz.func15, Tryz.ntmps15
  go_wp2_with fail
  obtain ⟨W1, hW2⟩ : ∃ X, X = ((w).alloc (.cells #[.slice A m c, .slice A' m2 c', .bool d] 60)).alloc (.cells #[.slice none 0 0, .slice none 0 0, .bool false] 60) := ⟨_, rfl⟩
  rw [← hW2]
  have hb3 : Below w.heap.size w W1 := by rw [hW2]; exact bel_alloc (bel_alloc (Below.refl _ _) _) _
  have Ns := Lib.hid (show W1.heap[w.heap.size]? = some (.cells #[.slice A m c, .slice A' m2 c', .bool d] 60 (0, 0)) by rw [hW2]; exact heap_below (heap_at (w) _ (w.heap.size) (by simp)) (bel_alloc (Below.refl _ _) _))
  have Nz := Lib.hid (show W1.heap[w.heap.size + 1]? = some (.cells #[.slice none 0 0, .slice none 0 0, .bool false] 60 (0, 0)) by rw [hW2]; exact heap_at ((w).alloc (.cells #[.slice A m c, .slice A' m2 c', .bool d] 60)) _ (w.heap.size + 1) (by simp))
  clear hW2
  have BB4 := Lib.hid hb3
  clear hb3
  have Bls := Ns
  clear Ns
  have Blz := Nz
  clear Nz
  have R1 := Lib.hid (HV.out.below BB4.out)
  have R2 := Lib.hid (HU.out.below BB4.out)
  refine (HD.out _ R1.out R2.out).mono ?_
  rintro e w5 ⟨rfl, hb6⟩
  have Z := Lib.hid (heap_below Bls.out hb6)
  clear Bls
  have Bls := Z
  clear Z
  have Z := Lib.hid (heap_below Blz.out hb6)
  clear Blz
  have Blz := Z
  clear Z
  have Z := Lib.hid (OkRow.below R1.out hb6)
  clear R1
  have R1 := Z
  clear Z
  have Z := Lib.hid (OkRow.below R2.out hb6)
  clear R2
  have R2 := Z
  clear Z
  have BB7 := Lib.hid (bThen BB4.out hb6)
  clear hb6
  have zs := blk_lt Bls.out
  have xs0 := cellsAt Bls.out 0
  have xs1 := cellsAt Bls.out 1
  have xs2 := cellsAt Bls.out 2
  have fs := frozAt Bls.out
  simp at xs0 xs1 xs2
  have zz := blk_lt Blz.out
  have xz0 := cellsAt Blz.out 0
  have xz1 := cellsAt Blz.out 1
  have xz2 := cellsAt Blz.out 2
  have fz := frozAt Blz.out
  simp at xz0 xz1 xz2
  cases q with
  | false =>
    have HRR := Lib.hid (show R = (zS, 1) by rw [← HR.out]; unfold startS; simp only; rw [if_neg (by rw [HQ.out]; simp)])
    go_wp2_with fail
    exact bodyPost_ret (v := .tuple #[.agg #[.slice none 0 0, .slice none 0 0, .bool false], .int .i64 1]) (by simp [results, Tryz.results15, go_sem, xz0, xz1, xz2]) rfl ⟨_, by rw [HRR.out], by rw [HRR.out]; exact zS_at _, bel3 BB7.out (by omega) _ _ _⟩
  | true =>
    have HRR := Lib.hid (show R = (⟨lc, [], false⟩, 0) by rw [← HR.out]; unfold startS; simp only; rw [if_pos HQ.out])
    go_wp2_with fail
    refine (HCL.out _ R1.out.1).mono ?_
    rintro e w8 ⟨v4, rfl, ho4, hb4⟩
    clear zs fs xs0 xs1 xs2 zz fz xz0 xz1 xz2
    rw [Hm.out] at ho4
    have HO4 := Lib.hid ho4
    obtain ⟨A4, c4, rfl⟩ := own_slice ho4
    clear ho4
    have hzc : w.heap.size + 2 ≤ w5.heap.size := by have := blk_lt Blz.out; omega
    have Z := Lib.hid (heap_below Bls.out hb4)
    clear Bls
    have Bls := Z
    clear Z
    have Z := Lib.hid (heap_below Blz.out hb4)
    clear Blz
    have Blz := Z
    clear Z
    have Z := Lib.hid (OkRow.below R1.out hb4)
    clear R1
    have R1 := Z
    clear Z
    have Z := Lib.hid (OkRow.below R2.out hb4)
    clear R2
    have R2 := Z
    clear Z
    have BB9 := Lib.hid (bThen BB7.out hb4)
    clear hb4
    have zz := blk_lt Blz.out
    have xz0 := cellsAt Blz.out 0
    have xz1 := cellsAt Blz.out 1
    have xz2 := cellsAt Blz.out 2
    have fz := frozAt Blz.out
    simp at xz0 xz1 xz2
    go_wp2_with fail
    have Ez := set3 Blz.out (.slice A4 m c4) (.slice none 0 0) (.bool false)
    have e0 := cellsAt Ez 0
    have e1 := cellsAt Ez 1
    have e2 := cellsAt Ez 2
    simp at e0 e1 e2
    exact bodyPost_ret (v := .tuple #[.agg #[.slice A4 m c4, .slice none 0 0, .bool false], .int .i64 0]) (by simp [results, Tryz.results15, go_sem, e0, e1, e2]) rfl ⟨_, by rw [HRR.out], by rw [HRR.out]; exact ⟨_, _, rfl, ⟨Row.of_own Cl.cs_len (own3 HO4.out (by omega) _ _ _) Hm.out.symm, OKL.out, by show lc.length ≤ _; rw [Hm.out]; omega⟩, OkRow.none_ _⟩, bel3 BB9.out (by omega) _ _ _⟩
def RdTo (r : ByteArray × Int) (w : World) (e : Ending) (w' : World) : Prop := e = .returned (.tuple #[.string r.1, .int .i64 r.2]) ∧ Below w.heap.size w w'
set_option maxRecDepth 100000 in
set_option maxHeartbeats 4000000 in
theorem read_any (s : St) (t : ByteArray) (v : Value) (w : World) (hs : StAt w v s) :
    Calls Tryz.prog 16 #[v, .string t] w (RdTo (readS s t) w) := by
  have HS := Lib.hid hs
  obtain ⟨lc, lf, d⟩ := s
  obtain ⟨A, c, A', c', rfl, hv, hu⟩ := hs.form
  simp only at hv hu
  have RL := Lib.hid hv.1
  have RF := Lib.hid hu.1
  have OKL := Lib.hid hv.2.1
  have OKF := Lib.hid hu.2.1
  have hl := hv.2.2
  have hl2 := hu.2.2
  have HV := Lib.hid hv
  have HU := Lib.hid hu
  obtain ⟨m, hm⟩ : ∃ m, lc.length = m := ⟨_, rfl⟩
  obtain ⟨m2, hm2⟩ : ∃ m, lf.length = m := ⟨_, rfl⟩
  obtain ⟨R, hR⟩ : ∃ R, readS ⟨lc, lf, d⟩ t = R := ⟨_, rfl⟩
  rw [hR]
  have HR := Lib.hid hR
  simp only at HV HU ⊢
  rw [hm] at RL HV hl ⊢
  rw [hm2] at RF HU hl2 ⊢
  have Hm := Lib.hid hm
  have Hm2 := Lib.hid hm2
  obtain ⟨r, hr⟩ : ∃ r, readyE lc lf d = r := ⟨_, rfl⟩
  have HD := Lib.hid (fun W h1 h2 => ready_any lc lf d (.slice A m c) (.slice A' m2 c') W h1 h2 r hr)
  have HRD := Lib.hid hr
  have HF := Lib.hid (fun W (h : Row Cl.cs 2 W (.slice A m c) lc) (hs : Rise lc) => find_any lc t _ W h (by omega) hs)
  clear hm hm2 hv hu hR hr hs
  unfold RdTo
  go_enter Tryz.func16, Tryz.ntmps16
  go_wp2_with fail
  obtain ⟨W1, hW2⟩ : ∃ X, X = (w).alloc (.cells #[.slice A m c, .slice A' m2 c', .bool d] 60) := ⟨_, rfl⟩
  rw [← hW2]
  have hb3 : Below w.heap.size w W1 := by rw [hW2]; exact bel_alloc (Below.refl _ _) _
  have Ns := Lib.hid (show W1.heap[w.heap.size]? = some (.cells #[.slice A m c, .slice A' m2 c', .bool d] 60 (0, 0)) by rw [hW2]; exact heap_at (w) _ (w.heap.size) (by simp))
  clear hW2
  have BB4 := Lib.hid hb3
  clear hb3
  have Bls := Ns
  clear Ns
  have R1 := Lib.hid (HV.out.below BB4.out)
  have R2 := Lib.hid (HU.out.below BB4.out)
  refine (HD.out _ R1.out R2.out).mono ?_
  rintro e w5 ⟨rfl, hb6⟩
  have Z := Lib.hid (heap_below Bls.out hb6)
  clear Bls
  have Bls := Z
  clear Z
  have Z := Lib.hid (OkRow.below R1.out hb6)
  clear R1
  have R1 := Z
  clear Z
  have Z := Lib.hid (OkRow.below R2.out hb6)
  clear R2
  have R2 := Z
  clear Z
  have BB7 := Lib.hid (bThen BB4.out hb6)
  clear hb6
  have zs := blk_lt Bls.out
  have xs0 := cellsAt Bls.out 0
  have xs1 := cellsAt Bls.out 1
  have xs2 := cellsAt Bls.out 2
  have fs := frozAt Bls.out
  simp at xs0 xs1 xs2
  by_cases h0 : r = 0
  · subst h0
    have HRT := Lib.hid (show rightB lc lf = true ∧ d = false by have h := HRD.out; unfold readyE at h; split at h <;> (try split at h) <;> simp_all)
    have HRC := Lib.hid (right_iff.1 HRT.out.1)
    have HR2 := Lib.hid (show (match getS lc t with | some b => (b, (0 : Int)) | none => (⟨#[]⟩, 171)) = R by rw [← HR.out]; unfold readS; rw [if_pos HRT.out.1]; simp only; rw [if_neg (show ¬ d = true by rw [HRT.out.2]; simp)])
    go_wp2_with fail
    refine (HF.out _ R1.out.1 HRC.out.rise).mono ?_
    rintro e w8 ⟨i, hi, rfl, hat, hb9⟩
    clear zs fs xs0 xs1 xs2
    have Z := Lib.hid (heap_below Bls.out hb9)
    clear Bls
    have Bls := Z
    clear Z
    have Z := Lib.hid (OkRow.below R1.out hb9)
    clear R1
    have R1 := Z
    clear Z
    have Z := Lib.hid (OkRow.below R2.out hb9)
    clear R2
    have R2 := Z
    clear Z
    have BB10 := Lib.hid (bThen BB7.out hb9)
    clear hb9
    have HG := Lib.hid (get_at HRC.out.rise hat hi)
    clear hat
    obtain ⟨f, hf⟩ : ∃ f, fndS lc i t = f := ⟨_, rfl⟩
    rw [hf] at HG ⊢
    have HFD := Lib.hid hf
    clear hf
    rw [Hm.out] at hi
    have zs := blk_lt Bls.out
    have xs0 := cellsAt Bls.out 0
    have xs1 := cellsAt Bls.out 1
    have xs2 := cellsAt Bls.out 2
    have fs := frozAt Bls.out
    simp at xs0 xs1 xs2
    cases f with
    | false =>
      have HRR := Lib.hid (show R = (⟨#[]⟩, 171) by rw [← HR2.out, HG.out]; rfl)
      go_wp2_with fail
      go_ret2
      exact ⟨by rw [HRR.out]; try rfl, BB10.out⟩
    | true =>
      obtain ⟨x, hx⟩ : ∃ x, lc[i]? = some x := by
        cases h : lc[i]? with
        | some x => exact ⟨x, rfl⟩
        | none => have := HFD.out; unfold fndS at this; rw [h] at this; cases this
      have hil : i < m := by rw [← Hm.out]; exact (List.getElem?_eq_some_iff.1 hx).1
      have hil2 : (i : Int) < (m : Int) := by omega
      have hi0 : (0 : Int) ≤ (i : Int) := by omega
      have HRR := Lib.hid (show R = (x.b, 0) by rw [← HR2.out, HG.out, if_pos rfl, hx]; rfl)
      obtain ⟨b1, o1, c6, e', hc', hb1, hX⟩ := R1.out.1.at_ hx
      injection e' with e1 e2 e3
      clear e2
      subst e1 e3
      have k0 := hX 0 _ rfl
      have k1 := hX 1 _ rfl
      clear hX hx
      simp only [Nat.add_zero] at k0 k1
      obtain ⟨xn, xb⟩ := x
      simp only at k0 k1 HRR
      go_wp2_with fail
      go_ret2
      exact ⟨by rw [HRR.out]; try rfl, BB10.out⟩
  · have h02 : (r != 0) = true := by simpa using h0
    have HRR := Lib.hid (show R = (⟨#[]⟩, r) by rw [← HR.out, ← HRD.out]; have h := HRD.out; unfold readyE at h ⊢; unfold readS; simp only; split <;> (try split) <;> simp_all)
    clear h0
    go_wp2_with fail
    go_ret2
    exact ⟨by rw [HRR.out]; try rfl, BB7.out⟩
def writeS (s : St) (x : Cl) : St × Int := if (rightB s.c s.f && mayC x) = true then (if s.d = true then (zS, 170) else if 64 ≤ s.f.length then (zS, 3) else (⟨s.c, s.f ++ [x], false⟩, 0)) else (zS, 1)
set_option maxRecDepth 100000 in
set_option maxHeartbeats 4000000 in
theorem write_any (s : St) (x : Cl) (hx : x.Ok) (v : Value) (w : World) (hs : StAt w v s) :
    Calls Tryz.prog 76 #[v, .string x.n, .string x.b] w (StTo (writeS s x) w) := by
  have HS := Lib.hid hs
  obtain ⟨lc, lf, d⟩ := s
  obtain ⟨A, c, A', c', rfl, hv, hu⟩ := hs.form
  simp only at hv hu
  have RL := Lib.hid hv.1
  have RF := Lib.hid hu.1
  have OKL := Lib.hid hv.2.1
  have OKF := Lib.hid hu.2.1
  have hl := hv.2.2
  have hl2 := hu.2.2
  have HV := Lib.hid hv
  have HU := Lib.hid hu
  obtain ⟨m, hm⟩ : ∃ m, lc.length = m := ⟨_, rfl⟩
  obtain ⟨m2, hm2⟩ : ∃ m, lf.length = m := ⟨_, rfl⟩
  obtain ⟨R, hR⟩ : ∃ R, writeS ⟨lc, lf, d⟩ x = R := ⟨_, rfl⟩
  rw [hR]
  have HR := Lib.hid hR
  simp only at HV HU ⊢
  rw [hm] at RL HV hl ⊢
  rw [hm2] at RF HU hl2 ⊢
  have Hm := Lib.hid hm
  have Hm2 := Lib.hid hm2
  obtain ⟨q, hq⟩ : ∃ q, rightB lc lf = q := ⟨_, rfl⟩
  obtain ⟨bm, hbm⟩ : ∃ q, mayC x = q := ⟨_, rfl⟩
  have HD := Lib.hid (fun W h1 h2 => sright_any lc lf d (.slice A m c) (.slice A' m2 c') W h1 h2 q hq)
  have HP := Lib.hid (fun W => may_any x W bm hbm hx)
  have HQ := Lib.hid hq
  have HM := Lib.hid hbm
  have HXO := Lib.hid hx
  have HK := Lib.hid (fun W (h : Row Cl.cs 2 W (.slice A' m2 c') lf) => clone_any lf _ W h (by omega))
  obtain ⟨i0, hi, hi0, hi1, hi2⟩ := info_parts info_cl
  have HI := Lib.hid hi
  have HZ0 := Lib.hid hi0
  have HZ1 := Lib.hid hi1
  have HZ2 := Lib.hid hi2
  clear hm hm2 hv hu hR hq hbm hs hx hi hi0 hi1 hi2
  obtain ⟨xn, xb⟩ := x
  simp only at HP ⊢
  unfold StTo
  go_enter Tryz.func76, Tryz.ntmps76
  go_wp2_with fail
  obtain ⟨W1, hW2⟩ : ∃ X, X = (((w).alloc (.cells #[.slice A m c, .slice A' m2 c', .bool d] 60)).alloc (.cells #[.slice none 0 0, .slice none 0 0, .bool false] 60)).alloc (.cells #[.string xn, .string xb] 64) := ⟨_, rfl⟩
  rw [← hW2]
  have hb3 : Below w.heap.size w W1 := by rw [hW2]; exact bel_alloc (bel_alloc (bel_alloc (Below.refl _ _) _) _) _
  have Ns := Lib.hid (show W1.heap[w.heap.size]? = some (.cells #[.slice A m c, .slice A' m2 c', .bool d] 60 (0, 0)) by rw [hW2]; exact heap_below (heap_at (w) _ (w.heap.size) (by simp)) (bel_alloc (bel_alloc (Below.refl _ _) _) _))
  have Nz := Lib.hid (show W1.heap[w.heap.size + 1]? = some (.cells #[.slice none 0 0, .slice none 0 0, .bool false] 60 (0, 0)) by rw [hW2]; exact heap_below (heap_at ((w).alloc (.cells #[.slice A m c, .slice A' m2 c', .bool d] 60)) _ (w.heap.size + 1) (by simp)) (bel_alloc (Below.refl _ _) _))
  have Nc := Lib.hid (show W1.heap[w.heap.size + 1 + 1]? = some (.cells #[.string xn, .string xb] 64 (0, 0)) by rw [hW2]; exact heap_at (((w).alloc (.cells #[.slice A m c, .slice A' m2 c', .bool d] 60)).alloc (.cells #[.slice none 0 0, .slice none 0 0, .bool false] 60)) _ (w.heap.size + 1 + 1) (by simp))
  clear hW2
  have BB4 := Lib.hid hb3
  clear hb3
  have Bls := Ns
  clear Ns
  have Blz := Nz
  clear Nz
  have Blc := Nc
  clear Nc
  have R1 := Lib.hid (HV.out.below BB4.out)
  have R2 := Lib.hid (HU.out.below BB4.out)
  refine (HD.out _ R1.out R2.out).mono ?_
  rintro e w5 ⟨rfl, hb6⟩
  have Z := Lib.hid (heap_below Bls.out hb6)
  clear Bls
  have Bls := Z
  clear Z
  have Z := Lib.hid (heap_below Blz.out hb6)
  clear Blz
  have Blz := Z
  clear Z
  have Z := Lib.hid (heap_below Blc.out hb6)
  clear Blc
  have Blc := Z
  clear Z
  have Z := Lib.hid (OkRow.below R1.out hb6)
  clear R1
  have R1 := Z
  clear Z
  have Z := Lib.hid (OkRow.below R2.out hb6)
  clear R2
  have R2 := Z
  clear Z
  have BB7 := Lib.hid (bThen BB4.out hb6)
  clear hb6
  have zs := blk_lt Bls.out
  have xs0 := cellsAt Bls.out 0
  have xs1 := cellsAt Bls.out 1
  have xs2 := cellsAt Bls.out 2
  have fs := frozAt Bls.out
  simp at xs0 xs1 xs2
  have zz := blk_lt Blz.out
  have xz0 := cellsAt Blz.out 0
  have xz1 := cellsAt Blz.out 1
  have xz2 := cellsAt Blz.out 2
  have fz := frozAt Blz.out
  simp at xz0 xz1 xz2
  have zc := blk_lt Blc.out
  have xc0 := cellsAt Blc.out 0
  have xc1 := cellsAt Blc.out 1
  have fc := frozAt Blc.out
  simp at xc0 xc1
  cases q with
  | false =>
    have HRR := Lib.hid (show R = (zS, 1) by rw [← HR.out]; unfold writeS; simp only; rw [if_neg (by rw [HQ.out]; simp)])
    go_wp2_with fail
    exact bodyPost_ret (v := .tuple #[.agg #[.slice none 0 0, .slice none 0 0, .bool false], .int .i64 1]) (by simp [results, Tryz.results76, go_sem, xz0, xz1, xz2]) rfl ⟨_, by rw [HRR.out], by rw [HRR.out]; exact zS_at _, bel3 BB7.out (by omega) _ _ _⟩
  | true =>
    go_wp2_with fail
    refine (HP.out _).mono ?_
    rintro e w8 ⟨rfl, hb9⟩
    clear zs fs xs0 xs1 xs2 zz fz xz0 xz1 xz2 zc fc xc0 xc1
    have Z := Lib.hid (heap_below Bls.out hb9)
    clear Bls
    have Bls := Z
    clear Z
    have Z := Lib.hid (heap_below Blz.out hb9)
    clear Blz
    have Blz := Z
    clear Z
    have Z := Lib.hid (heap_below Blc.out hb9)
    clear Blc
    have Blc := Z
    clear Z
    have Z := Lib.hid (OkRow.below R1.out hb9)
    clear R1
    have R1 := Z
    clear Z
    have Z := Lib.hid (OkRow.below R2.out hb9)
    clear R2
    have R2 := Z
    clear Z
    have BB10 := Lib.hid (bThen BB7.out hb9)
    clear hb9
    have zs := blk_lt Bls.out
    have xs0 := cellsAt Bls.out 0
    have xs1 := cellsAt Bls.out 1
    have xs2 := cellsAt Bls.out 2
    have fs := frozAt Bls.out
    simp at xs0 xs1 xs2
    have zz := blk_lt Blz.out
    have xz0 := cellsAt Blz.out 0
    have xz1 := cellsAt Blz.out 1
    have xz2 := cellsAt Blz.out 2
    have fz := frozAt Blz.out
    simp at xz0 xz1 xz2
    have zc := blk_lt Blc.out
    have xc0 := cellsAt Blc.out 0
    have xc1 := cellsAt Blc.out 1
    have fc := frozAt Blc.out
    simp at xc0 xc1
    cases bm with
    | false =>
      have HRR := Lib.hid (show R = (zS, 1) by rw [← HR.out]; unfold writeS; simp only; rw [if_neg (by rw [HQ.out, HM.out]; simp)])
      go_wp2_with fail
      exact bodyPost_ret (v := .tuple #[.agg #[.slice none 0 0, .slice none 0 0, .bool false], .int .i64 1]) (by simp [results, Tryz.results76, go_sem, xz0, xz1, xz2]) rfl ⟨_, by rw [HRR.out], by rw [HRR.out]; exact zS_at _, bel3 BB10.out (by omega) _ _ _⟩
    | true =>
      have HQM := Lib.hid (show (rightB lc lf && mayC ⟨xn, xb⟩) = true by rw [HQ.out, HM.out]; rfl)
      cases d with
      | true =>
        have HRR := Lib.hid (show R = (zS, 170) by rw [← HR.out]; unfold writeS; simp only; rw [if_pos HQM.out, if_pos trivial])
        go_wp2_with fail
        exact bodyPost_ret (v := .tuple #[.agg #[.slice none 0 0, .slice none 0 0, .bool false], .int .i64 170]) (by simp [results, Tryz.results76, go_sem, xz0, xz1, xz2]) rfl ⟨_, by rw [HRR.out], by rw [HRR.out]; exact zS_at _, bel3 BB10.out (by omega) _ _ _⟩
      | false =>
        by_cases h64 : 64 ≤ m2
        · have HRR := Lib.hid (show R = (zS, 3) by rw [← HR.out]; unfold writeS; simp only; rw [if_pos HQM.out, if_neg (by simp), if_pos (by rw [Hm2.out]; exact h64)])
          have t64 : decide (64 ≤ (m2 : Int)) = true := by simp; omega
          have t64n : decide (64 ≤ m2) = true := by simp; omega
          go_wp2_with fail
          exact bodyPost_ret (v := .tuple #[.agg #[.slice none 0 0, .slice none 0 0, .bool false], .int .i64 3]) (by simp [results, Tryz.results76, go_sem, xz0, xz1, xz2]) rfl ⟨_, by rw [HRR.out], by rw [HRR.out]; exact zS_at _, bel3 BB10.out (by omega) _ _ _⟩
        · have HRR := Lib.hid (show R = (⟨lc, lf ++ [⟨xn, xb⟩], false⟩, 0) by rw [← HR.out]; unfold writeS; simp only; rw [if_pos HQM.out, if_neg (by simp), if_neg (by rw [Hm2.out]; exact h64)])
          have t64 : decide (64 ≤ (m2 : Int)) = false := by simp; omega
          have t64n : decide (64 ≤ m2) = false := by simp; omega
          go_upto_region 8 with fail
          have R2' := R2.out.1
          go_region_law (first | (go_simp; go_at_call 49; refine (HK.out _ (by first | assumption | exact Row.alloc (by assumption) _)).mono ?_; rintro e w4 ⟨v4, rfl, hown, hb4⟩; rw [Hm2.out] at hown; obtain ⟨A4, c4, rfl⟩ := own_slice hown; (try have q0 := (hb4.cell (p := ⟨w.heap.size + 1 + 1, 0, none⟩) (by assumption)).trans (by assumption : _ = some (Value.string xn))); (try have q1 := (hb4.cell (p := ⟨w.heap.size + 1 + 1, 1, none⟩) (by assumption)).trans (by assumption : _ = some (Value.string xb))); (try have q5 := (hb4.frozen (p := ⟨w.heap.size, 1, none⟩) (by assumption)).trans (fs 1)); (try have q6 := (hb4.cell (p := ⟨w.heap.size, 1, none⟩) (by assumption)).trans (by assumption : _ = some (Value.slice A' m2 c'))); have q7 := hb4.size) | (refine step_own rfl _ _ 58 rfl _ 64 i0 (.agg #[.string ⟨#[]⟩, .string ⟨#[]⟩]) 2 32 Tryz.underlying58 HI.out HZ0.out HZ1.out HZ2.out rfl (by decide) _ _ _ rfl (by first | exact hown | exact hown.alloc _) _ 1 1 [.string xn, .string xb] rfl rfl (by intro j u hj; match j, hj with | 0, hj | 1, hj => (simp at hj; subst hj; first | (simp [Addr.add]; done) | (refine (hb4.cell (by simp [Addr.add])).trans ?_; simp [Addr.add]))) (by intro u hu; simp at hu; rcases hu with rfl | rfl <;> rfl) (by unfold maxLen; omega) (by omega) (by have q7 := hb4.size; simp at q7 ⊢; omega) ?_; intro v5 W5 hown5 hgrow5 _; obtain ⟨A5, c5, rfl⟩ := own_slice hown5; have BG : Below w8.heap.size w8 W5 := (by first | exact bUndrew ((bel_alloc hb4 _).grown hgrow5 (by have q7 := hb4.size; simp at q7 ⊢; try omega) (fun q hq => by have := (hown.lt _ hq).1; simp at this ⊢; omega)) | exact ((belA (Below.refl _ _) (bUndrew hb4)).grown hgrow5 (by have q7 := hb4.size; simp at q7 ⊢; try omega) (fun q hq => by have := (hown.lt _ hq).1; simp at this ⊢; omega))); have q8 := (BG.cell (p := ⟨w.heap.size, 1, none⟩) zs).trans xs1; have q9 := (BG.frozen (p := ⟨w.heap.size, 1, none⟩) zs).trans (fs 1)))
          all_goals
            have BG' := Lib.hid BG
            have P2 := (Below.heap_setCell W5 ⟨w.heap.size, 1, none⟩ (.slice A5 (m2 + 1) c5) (w.heap.size + 1) (by simp; try omega)).trans (heap_below Blz.out BG)
            have P0 := blk_set (heap_below Bls.out BG) 1 (.slice A5 (m2 + 1) c5)
            have BS := Lib.hid ((bThen BB10.out BG).setCell (p := ⟨w.heap.size, 1, none⟩) (Nat.le_refl _) (.slice A5 (m2 + 1) c5))
            have hsz4 := hb4.size
            have hzz := blk_lt Blc.out
            have HO5 := Lib.hid (own_base (own_set hown5 (p := ⟨w.heap.size, 1, none⟩) (by show w.heap.size < _; simp; try omega) (.slice A5 (m2 + 1) c5)) (by show w.heap.size + 1 + 1 + 1 ≤ _; simp; try omega))
            clear BG q8 q9 hown5 hgrow5 hb4 hown hsz4 hzz
            simp at P0
            generalize W5.setCell ⟨w.heap.size, 1, none⟩ (.slice A5 (m2 + 1) c5) = W6 at *
            have ys0 := cellsAt P0 0
            have ys1 := cellsAt P0 1
            have ys2 := cellsAt P0 2
            have yz0 := cellsAt P2 0
            have yz1 := cellsAt P2 1
            have yz2 := cellsAt P2 2
            have fz' := frozAt P2
            simp at ys0 ys1 ys2 yz0 yz1 yz2
            have zz2 := blk_lt P2
            go_wp2_with fail
            have Ez := set3 P2 (.slice A m c) (.slice A5 (m2 + 1) c5) (.bool false)
            have BE := Lib.hid (bel3 BS.out (g := w.heap.size + 1) (by omega) (.slice A m c) (.slice A5 (m2 + 1) c5) (.bool false))
            have HO6 := Lib.hid (own3 HO5.out (g := w.heap.size + 1) (by show w.heap.size + 1 < _; omega) (.slice A m c) (.slice A5 (m2 + 1) c5) (.bool false))
            clear ys0 ys1 ys2 yz0 yz1 yz2 fz' P0 P2
            generalize (((W6.setCell ⟨w.heap.size + 1, 0, none⟩ (.slice A m c)).setCell ⟨w.heap.size + 1, 1, none⟩ (.slice A5 (m2 + 1) c5)).setCell ⟨w.heap.size + 1, 2, none⟩ (.bool false)) = W7 at *
            have e0 := cellsAt Ez 0
            have e1 := cellsAt Ez 1
            have e2 := cellsAt Ez 2
            simp at e0 e1 e2
            have hok : ∀ y ∈ lf ++ [(⟨xn, xb⟩ : Cl)], y.Ok := by
              intro y hy
              rcases List.mem_append.1 hy with h | h
              · exact OKF.out y h
              · simp at h; subst h; exact HXO.out
            have hat : StAt W7 (.agg #[.slice A m c, .slice A5 (m2 + 1) c5, .bool false]) ⟨lc, lf ++ [⟨xn, xb⟩], false⟩ := ⟨_, _, rfl, HV.out.below BE.out, ⟨Row.of_own Cl.cs_len (n := m2 + 1) (by rw [List.flatMap_append]; exact HO6.out) (by simp [Hm2.out]), hok, by show (lf ++ [_]).length ≤ _; rw [List.length_append, Hm2.out]; simp; omega⟩⟩
            exact bodyPost_ret (v := .tuple #[.agg #[.slice A m c, .slice A5 (m2 + 1) c5, .bool false], .int .i64 0]) (by simp [results, Tryz.results76, go_sem, e0, e1, e2]) rfl ⟨_, by rw [HRR.out], by rw [HRR.out]; exact hat, BE.out⟩
/-- A store, as it came in. -/
def StIn (W : World) (v : Value) (s : St) : Prop := ∃ vc vf, v = .agg #[vc, vf, .bool s.d] ∧ Row Cl.cs 2 W vc s.c ∧ Row Cl.cs 2 W vf s.f ∧ (∀ x ∈ s.c, x.Ok) ∧ (∀ x ∈ s.f, x.Ok) ∧ s.c.length ≤ maxLen ∧ s.f.length ≤ maxLen
def smallS (s : St) : Bool := decide (s.c.length ≤ 100) && decide (s.f.length ≤ 100)
theorem StIn.small {W : World} {v : Value} {s : St} (h : StIn W v s) (hs : smallS s = true) : StAt W v s := by
  obtain ⟨vc, vf, e, h1, h2, h3, h4, -, -⟩ := h
  unfold smallS at hs
  simp at hs
  exact ⟨vc, vf, e, ⟨h1, h3, by omega⟩, ⟨h2, h4, by omega⟩⟩
end Go.Proofs.YtlboehpgpbchhaaGreat.Sto
