/-
  WALKS of the top laws: a source's events that are not late: the iterator.
-/
import Derived.Test.YtlboehpgpbchhaaTopW19
set_option linter.unusedVariables false
set_option linter.unusedSimpArgs false
namespace Go.Proofs.Ytlboehpgpbchhaa
open Go.RowKit Go.Shelf
attribute [local go_sem] Oper.semAt_some

/-- Events that may be. -/
abbrev EvO := { e : Ev // e.Wf ∧ evB e = true }
def evE (x : EvO) : Array Value := #[.agg #[.string x.1.k, .int .i64 x.1.t, .int .i64 x.1.v]]
/-- Those that are not late, of a source at a mark. -/
def KpL (j : Jb) : Int → List Ev → List Ev → Prop
  | _, [], xs => xs = []
  | m, e :: l, xs => (e.t < m ∧ KpL j (mNext j m e.t) l xs) ∨ (¬ e.t < m ∧ ∃ v xs', i64B v ∧ xs = ⟨e.k, e.t, v⟩ :: xs' ∧ KpL j (mNext j m e.t) l xs')
theorem kept_any (j : Jb) (A : Option Addr) (n c : Nat) (w : World) : Calls Try.prog 69 #[.agg j.cs, .slice A n c] w fun e w' =>
    e = .returned (.func (.func 84) #[] #[.pointer (some ⟨w.heap.size, 0, none⟩), .pointer (some ⟨w.heap.size + 1, 0, none⟩)]) ∧
    w' = (w.alloc (.cells j.cs 46)).alloc (.cells #[.slice A n c] 94) := by
  obtain ⟨jg, js, jd, jf, ju, jl, jy, ji⟩ := j
  unfold Jb.cs
  simp only
  go_enter Try.func69, Try.ntmps69
  go_wp2_with fail
  go_ret
  exact ⟨rfl, rfl⟩
theorem kpL_ex (j : Jb) : ∀ (l : List Ev) (m : Int), ∃ xs, KpL j m l xs
  | [], _ => ⟨[], rfl⟩
  | e :: l, m => by
    obtain ⟨xs, h⟩ := kpL_ex j l (mNext j m e.t)
    by_cases hl : e.t < m
    · exact ⟨xs, .inl ⟨hl, h⟩⟩
    · exact ⟨_, .inr ⟨hl, 0, xs, i64_0, rfl, h⟩⟩
def KeRel (j : Jb) (l : List Ev) (J : List EvO → World → Prop) (B : Nat) (w0 : World) (i : Value) (wr : World) : Prop :=
  ∃ (k : Nat) (pre : List EvO) (m : Int), k ≤ l.length ∧ i = .int .i64 k ∧ pre.length ≤ k ∧ J pre wr ∧ wr.heap[B]? = some (.cells (sCs j m) 137 (0, 0)) ∧
    (∀ xs', KpL j m (l.drop k) xs' → KpL j 0 l (pre.map Subtype.val ++ xs')) ∧ Below w0.heap.size w0 wr
set_option maxRecDepth 100000 in
set_option maxHeartbeats 4000000 in
theorem kept1_seq (n : Nat) (hn : 1 ≤ n) (j : Jb) (l : List Ev) (A : Option Addr) (ln c : Nat) (bj bl : Nat) (w0 w : World) (hj : w.heap[bj]? = some (.cells j.cs 46 (0, 0))) (hl : w.heap[bl]? = some (.cells #[.slice A ln c] 94 (0, 0)))
    (hrow : Row Ev.cs 3 w0 (.slice A ln c) l) (hln : l.length = ln) (hlen : l.length ≤ 200) (hwf : ∀ e ∈ l, e.Wf ∧ evB e = true) (hb : Below w0.heap.size w0 w) :
    SeqQ Fence.wide n Try.prog 84 #[.pointer (some ⟨bj, 0, none⟩), .pointer (some ⟨bl, 0, none⟩)] evE w0.heap.size [] 1 (fun xs => KpL j 0 l (xs.map Subtype.val)) (fun pre => ∃ xs', KpL j 0 l (pre.map Subtype.val ++ xs')) ln w := by
  intro L J Jx W hW hJ hJx hY h0
  have HY := Lib.hid hY
  have HJ := Lib.hid hJ
  have hJ1 := Lib.hid (show ∀ (X : World) (o : Obj), J [] X → J [] (X.alloc o) from fun X o h => hJ.new o h)
  have HROW := Lib.hid hrow
  have HWF := Lib.hid hwf
  have BW := Lib.hid (show Below w0.heap.size w0 W from bThen hb hW)
  have bJ := heap_below hj hW
  have bL := heap_below hl hW
  have zj := blk_lt bJ
  have zl := blk_lt bL
  have HLN := Lib.hid hln
  obtain ⟨jg, js, jd, jf, ju, jl, jy, ji⟩ := j
  have y0 := cellsAt bJ 0
  have y1 := cellsAt bJ 1
  have y2 := cellsAt bJ 2
  have y3 := cellsAt bJ 3
  have y4 := cellsAt bJ 4
  have y5 := cellsAt bJ 5
  have y6 := cellsAt bJ 6
  have y7 := cellsAt bJ 7
  have l0 := cellsAt bL 0
  simp [Jb.cs] at y0 y1 y2 y3 y4 y5 y6 y7 l0
  rw [hln] at hlen
  have BJ := Lib.hid bJ
  have BL := Lib.hid bL
  have hsz := Lib.hid (show W.heap.size = W.heap.size from rfl)
  clear hW hJ hJx hY hj hl hrow hwf hb hln bJ bL
  refine callsIn_of_wp Try.func84 rfl trivial ?_ rfl
  simp only [Try.ntmps84, List.size_toArray, List.length_cons, List.length_nil, Nat.reduceAdd, Nat.reduceSub, Array.replicate_succ, Array.replicate_zero, List.push_toArray, List.append_toArray, List.nil_append, List.cons_append]
  gi_wp2
  have J1 := Lib.hid (hJ1.out W (.cells (sCs ⟨jg, js, jd, jf, ju, jl, jy, ji⟩ 0) 137) h0)
  obtain ⟨W1, hW1⟩ : ∃ X, X = W.alloc (.cells (sCs ⟨jg, js, jd, jf, ju, jl, jy, ji⟩ 0) 137) := ⟨_, rfl⟩
  have B1 := Lib.hid (show Below W.heap.size W W1 by rw [hW1]; exact bel_alloc (Below.refl _ _) _)
  have BS := Lib.hid (show W1.heap[W.heap.size]? = some (.cells (sCs ⟨jg, js, jd, jf, ju, jl, jy, ji⟩ 0) 137 (0, 0)) by rw [hW1]; exact heap_at _ _ _ rfl)
  rw [← hW1] at J1
  simp only [sCs] at hW1
  rw [← hW1]
  clear hW1 hJ1 h0 y0 y1 y2 y3 y4 y5 y6 y7 l0
  gi_loopw [15] (fun i wr => KeRel ⟨jg, js, jd, jf, ju, jl, jy, ji⟩ l J W.heap.size w0 i wr) (fun i _ => ln - (intOf i).toNat)
  case atStart => exact ⟨0, [], 0, Nat.zero_le _, rfl, Nat.le_refl _, J1.out, BS.out, fun xs' h => h, bThen BW.out B1.out⟩
  case round =>
    obtain ⟨i, pre, m, hi, rfl, hpre, hJs, hs, hk, hbw⟩ := hrel
    have PRE := Lib.hid hpre
    have JS := Lib.hid hJs
    have SO := Lib.hid hs
    have HK := Lib.hid hk
    have HB := Lib.hid hbw
    rw [HLN.out] at hi
    clear hpre hJs hs hk hbw J1 B1 BS
    by_cases hlt : i < ln
    rotate_left
    · obtain rfl : i = ln := by omega
      gi_wp2
      go_end0
      refine ⟨⟨_, rfl⟩, .inl ⟨pre, ?_, JS.out⟩⟩
      have := HK.out [] (by rw [← HLN.out, List.drop_length]; rfl)
      simpa using this
    obtain ⟨x, hx⟩ : ∃ x, l[i]? = some x := ⟨_, List.getElem?_eq_getElem (by rw [HLN.out]; exact hlt)⟩
    have hrow := HROW.out.below HB.out
    obtain ⟨b, o, c', hv', -, hb, hX⟩ := hrow.at_ hx
    rw [HLN.out] at hv'
    injection hv' with e1 e2 e3
    subst e1 e3
    have c0 := hX 0 _ rfl
    have c1 := hX 1 _ rfl
    have c2 := hX 2 _ rfl
    simp only [Nat.add_zero] at c0 c1 c2
    have HXW := Lib.hid (HWF.out x (List.mem_of_getElem? hx))
    have HDR := Lib.hid (List.drop_eq_getElem_cons (show i < l.length by rw [HLN.out]; exact hlt))
    have HGX := Lib.hid (show l[i]'(by rw [HLN.out]; exact hlt) = x by rw [List.getElem?_eq_getElem (by rw [HLN.out]; exact hlt)] at hx; exact Option.some.inj hx)
    clear hX hrow hx e2
    obtain ⟨xk, xt, xv⟩ := x
    simp only at c0 c1 c2
    have hI : (i : Int) < (ln : Int) := by omega
    have SO1 := Lib.hid (heap_below SO.out (bel_alloc (Below.refl _ wr) (.cells #[.string xk, .int .i64 xt, .int .i64 xv] 93)))
    have HSEE := Lib.hid (see_any W.heap.size ⟨jg, js, jd, jf, ju, jl, jy, ji⟩ m ⟨xk, xt, xv⟩ _ SO1.out HXW.out.1)
    by_cases hlate : xt < m
    · have hd : decide (xt < m) = true := decide_eq_true hlate
      have KX := Lib.hid (show ∀ xs', KpL ⟨jg, js, jd, jf, ju, jl, jy, ji⟩ (mNext ⟨jg, js, jd, jf, ju, jl, jy, ji⟩ m xt) (l.drop (i + 1)) xs' → KpL ⟨jg, js, jd, jf, ju, jl, jy, ji⟩ 0 l (pre.map Subtype.val ++ xs') from fun xs' h => HK.out xs' (by rw [HDR.out, HGX.out]; exact .inl ⟨hlate, h⟩))
      gi_wp2_with (refine ⟨trivial, ?_⟩; gi_at_call 85; refine (callsIn_wide.2 HSEE.out).mono ?_; rintro e w2 ⟨⟨v', rfl, hv'⟩, hq2, hg2⟩)
      have HV' := Lib.hid hv'
      have Q2 := Lib.hid hq2
      have G2 := Lib.hid hg2
      clear hv' hq2 hg2
      refine ⟨fun _ h => (by cases h), ?_⟩
      gi_wp2
      go_roundw
      case rel =>
        exact ⟨i + 1, pre, _, by rw [HLN.out]; omega, by go_num, by have := PRE.out; omega, HJ.out.new _ (HJ.out _ _ _ _ (HJ.out.new _ JS.out) G2.out (fun r e => by cases e; exact ⟨Nat.le_refl _, .inl (by omega)⟩)), heap_below Q2.out (bel_alloc (Below.refl _ _) _), KX.out, ((bel_alloc HB.out _).grown G2.out (by have := HB.out.size; simp; omega) (fun k e => by cases e; exact BW.out.size)).alloc (by have := HB.out.size; have := G2.out.size; simp at this; omega) _⟩
      case measure => simp [intOf]; omega
    · have hd : decide (xt < m) = false := decide_eq_false hlate
      have KX := Lib.hid (show ∀ v' xs', i64B v' → KpL ⟨jg, js, jd, jf, ju, jl, jy, ji⟩ (mNext ⟨jg, js, jd, jf, ju, jl, jy, ji⟩ m xt) (l.drop (i + 1)) xs' → KpL ⟨jg, js, jd, jf, ju, jl, jy, ji⟩ 0 l (pre.map Subtype.val ++ (⟨xk, xt, v'⟩ :: xs')) from fun v' xs' hv' h => HK.out _ (by rw [HDR.out, HGX.out]; exact .inr ⟨hlate, v', xs', hv', rfl, h⟩))
      have hpl : pre.length < ln := by have := PRE.out; omega
      have HPL := Lib.hid hpl
      clear hpl
      gi_wp2_with (refine ⟨trivial, ?_⟩; gi_at_call 85; refine (callsIn_wide.2 HSEE.out).mono ?_; rintro e w2 ⟨⟨v', rfl, hv'⟩, hq2, hg2⟩; have Q2 := Lib.hid hq2; have G2 := Lib.hid hg2; have HV' := Lib.hid hv'; clear hq2 hg2 hv'; obtain ⟨fn, tmps, assign, body, hy, hR⟩ := HY.out pre ⟨⟨xk, xt, v'⟩, ⟨HXW.out.1.1, HXW.out.1.2.1, HV'.out⟩, HXW.out.2⟩ (w2.alloc (.cells #[.string xk, .int .i64 xt, .int .i64 v'] 93)) (by have := blk_lt Q2.out; simp; omega) (HJ.out.new _ (HJ.out _ _ _ _ (HJ.out.new _ JS.out) G2.out (fun r e => by cases e; exact ⟨Nat.le_refl _, .inl (by omega)⟩))) HPL.out; simp only [evE] at hy; have HR := Lib.hid hR; clear hR)
      refine HR.out.mono ?_
      rintro e W3 (⟨rfl, hJ3, hk3⟩ | ⟨rfl, hJx3, -⟩)
      · have J3 := Lib.hid hJ3
        have K3 := Lib.hid hk3
        clear hJ3 hk3
        gi_wp2
        go_roundw
        case rel =>
          refine ⟨i + 1, _, _, by rw [HLN.out]; omega, by go_num, ?_, J3.out, K3.out.mid _ _ (Nat.le_refl _) (heap_below Q2.out (bel_alloc (Below.refl _ _) _)) (.inl (by omega)), ?_, ?_⟩
          · have := PRE.out; simp; omega
          · intro xs' h
            have := KX.out v' xs' HV'.out h
            simpa using this
          · exact (((bel_alloc HB.out _).grown G2.out (by have := HB.out.size; simp; omega) (fun k e => by cases e; exact BW.out.size)).alloc (by have := HB.out.size; have := G2.out.size; simp at this; omega) _).trans K3.out.low
        case measure => simp [intOf]; omega
      · have Jx3 := Lib.hid hJx3
        clear hJx3
        gi_wp2
        refine bodyPost_ret (results_none rfl _ _ _) rfl ?_
        obtain ⟨xs', hx'⟩ := kpL_ex ⟨jg, js, jd, jf, ju, jl, jy, ji⟩ (l.drop (i + 1)) (mNext ⟨jg, js, jd, jf, ju, jl, jy, ji⟩ m xt)
        exact ⟨⟨_, rfl⟩, .inr ⟨_, ⟨xs', by have := KX.out v' xs' HV'.out hx'; simpa using this⟩, Jx3.out⟩⟩
end Go.Proofs.Ytlboehpgpbchhaa
