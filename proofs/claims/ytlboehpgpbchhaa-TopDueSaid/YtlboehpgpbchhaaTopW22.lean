/-
  WALKS of the top laws: a job is run.
-/
import Derived.Test.YtlboehpgpbchhaaTopW21
import Derived.Laws.EntriesVeiled
set_option linter.unusedVariables false
set_option linter.unusedSimpArgs false
namespace Go.Proofs.Ytlboehpgpbchhaa
open Go.RowKit Go.Shelf
attribute [local go_sem] Oper.semAt_some

theorem kpL_le (j : Jb) : ∀ (l : List Ev) (m : Int) (xs : List Ev), KpL j m l xs → xs.length ≤ l.length
  | [], _, xs, h => by rw [show xs = [] from h]; simp
  | e :: l, m, xs, h => by
    rcases h with ⟨-, h⟩ | ⟨-, v, xs', -, rfl, h⟩
    · have := kpL_le j l _ _ h; simp; omega
    · have := kpL_le j l _ _ h; simp; omega
theorem kpL_len {j : Jb} {m : Int} {l : List Ev} {ys : List EvO} (h : KpL j m l (ys.map Subtype.val)) : ys.length ≤ l.length := by have := kpL_le j l m _ h; rwa [List.length_map] at this
theorem kpL_one {j : Jb} {e0 : Ev} {ys : List EvO} (h : KpL j 0 [e0] (ys.map Subtype.val)) (h0 : 0 ≤ e0.t) : ∃ x v, ys = [x] ∧ x.1 = ⟨e0.k, e0.t, v⟩ := by
  rcases h with ⟨h1, -⟩ | ⟨-, v, xs', -, h2, h3⟩
  · omega
  · rw [show xs' = [] from h3] at h2
    cases ys with
    | nil => simp at h2
    | cons x t =>
      rw [List.map_cons] at h2
      injection h2 with h4 h5
      cases t with
      | nil => exact ⟨x, v, rfl, h4⟩
      | cons y t => simp at h5
/-- Results that may be. -/
def rsOk (qs : List (Pn × Int)) : Prop := qs.length ≤ 2000 ∧ ∀ q ∈ qs, pmB q.1 = true ∧ q.1.Wf ∧ i64B q.2 ∧ q.1.n ≤ 1073741824
/-- What model.Run tells. -/
def RnTo (j : Jb) (l : List Ev) (w : World) (e : Ending) (w' : World) : Prop :=
  ∃ (v : Value) (er : Int) (qs : List (Pn × Int)), e = .returned (.tuple #[v, .int .i64 er]) ∧ w'.ownsRow w.heap.size 71 5 v qs.length (qs.flatMap rsOf) ∧ rsOk qs ∧
    (∀ e0, l = [e0] → oneE j e0 → jR j = true → inB l = true → er = 0 ∧ qs.length = 1) ∧ Below w.heap.size w w'
/-- What lies in Run's own cells between two rounds. -/
def RnI (j : Jb) (w W0 : World) (g t4 : Nat) (pre : List EvO) (W : World) : Prop :=
  (∃ (vl : Value) (l : List Pn), GaAt g (W0.heap.size + 8) (16 * pre.length) j vl l W ∧ (pre = [] → l = []) ∧ (∀ x, pre = [x] → oneE j x.1 → l.length = 1 ∧ prB l = true)) ∧
  Boxed W (w.heap.size + 1 + 1) 63 (.slice none 0 0) ∧ Boxed W (w.heap.size + 1 + 1 + 1) 27 (.int .i64 0) ∧ Boxed W t4 115 (.pointer (some ⟨g, 0, none⟩)) ∧
  Boxed W (t4 + 1) 118 (.func (.func 70) #[.pointer (some ⟨g, 0, none⟩)] #[]) ∧ W.heap[w.heap.size]? = some (.cells j.cs 46 (0, 0)) ∧ Below w.heap.size w W
theorem keptQ_set {n0 B K b : Nat} {W : World} {t : TypeId} {v : Value} (h : Boxed W b t v) (hn : n0 ≤ b) (hb : b < B) (u : Value) : KeptQ n0 [] B K W (W.setCell ⟨b, 0, none⟩ u) :=
  KeptQ.grown (grownBy_setCell' W b u) (by have := h.lt; omega) (fun k e => by cases e; exact ⟨hn, by simp, ⟨_, h, rfl⟩, .inl hb⟩)
def RnX (j : Jb) (w : World) (c : Code) (pre : List EvO) (W : World) : Prop :=
  c = .ret ∧ Boxed W (w.heap.size + 1 + 1) 63 (.slice none 0 0) ∧ (∃ er, Boxed W (w.heap.size + 1 + 1 + 1) 27 (.int .i64 er)) ∧ Below w.heap.size w W ∧ (∀ x, pre = [x] → ¬ oneE j x.1) ∧ pre ≠ []
theorem gaAt_ab {g B c : Nat} {j : Jb} {vl : Value} {l : List Pn} {X Y : World} {row : Option Nat} (h : GaAt g B c j vl l X) (hg : X.grownBy Y row) (hne : row ≠ some g) (hr : ∀ r, row = some r → r < B ∨ ∃ o : Obj, X.heap[r]? = some o ∧ o.isCells = false) : GaAt g B c j vl l Y := by
  obtain ⟨⟨bad, h1⟩, h2, h3⟩ := h
  refine ⟨⟨bad, heap_grown' h1 hg hne⟩, h2.kept hg ?_, h3⟩
  rcases h2.2 with ⟨rfl, _⟩ | ⟨g', cap, cur, rfl, hb, hgb, _⟩
  · exact .inl rfl
  · refine .inr fun e => ?_
    rcases hr _ e.symm with h4 | ⟨o, h4, h5⟩
    · simp only at h4
      omega
    · rw [hgb] at h4
      cases h4
      cases h5
theorem rnI_ab (j : Jb) (w W0 : World) (g t4 : Nat) (hw : w.heap.size + 4 ≤ W0.heap.size) (hg : g < W0.heap.size) (ht : t4 + 1 < W0.heap.size) : AbQ W0.heap.size 8 (RnI j w W0 g t4) := by
  rintro pre X Y row ⟨⟨vl, l, h1, h2, h3⟩, b1, b2, b3, b4, h4, h5⟩ hgr hr
  have hlo : ∀ r, row = some r → W0.heap.size ≤ r := fun r e => (hr r e).1
  refine ⟨⟨vl, l, gaAt_ab h1 hgr (fun e => by have := hlo _ e; omega) (fun r e => ?_), h2, h3⟩, b1.kept hgr (fun e => by have := hlo _ e.symm; omega), b2.kept hgr (fun e => by have := hlo _ e.symm; omega), b3.kept hgr (fun e => by have := hlo _ e.symm; omega), b4.kept hgr (fun e => by have := hlo _ e.symm; omega), heap_grown' h4 hgr (fun e => by have := hlo _ e; omega), h5.grown hgr h5.size (fun k e => by have := hlo k e; omega)⟩
  rcases (hr r e).2 with h | h
  · exact .inl h
  · exact .inr h
theorem rnX_ab (j : Jb) (w W0 : World) (c : Code) (hw : w.heap.size + 4 ≤ W0.heap.size) : AbQ W0.heap.size 8 (RnX j w c) := by
  rintro pre X Y row ⟨h0, b1, ⟨er, b2⟩, h5, h6⟩ hgr hr
  have hlo : ∀ r, row = some r → W0.heap.size ≤ r := fun r e => (hr r e).1
  exact ⟨h0, b1.kept hgr (fun e => by have := hlo _ e.symm; omega), ⟨er, b2.kept hgr (fun e => by have := hlo _ e.symm; omega)⟩, h5.grown hgr h5.size (fun k e => by have := hlo k e; omega), h6⟩
set_option maxRecDepth 100000 in
set_option maxHeartbeats 4000000 in
theorem run_any (j : Jb) (l : List Ev) (v : Value) (w : World) (hv : In1 w v l) (hjw : i64B j.s) :
    Calls Try.prog 52 #[.agg j.cs, v] w (RnTo j l w) := by
  have HC := Lib.hid (fun w' (hb : Below w.heap.size w w') => check_any j l v w' (hv.below hb))
  have HV := Lib.hid hv
  obtain ⟨⟨b, o, c, A, c', rfl, hbl, hcl, hrow⟩, hwf, hlm⟩ := hv
  have HROW := Lib.hid hrow
  have HWF := Lib.hid hwf
  have HCL := Lib.hid hcl
  have HLM := Lib.hid hlm
  have HJS := Lib.hid (show oneE j = oneE j from rfl)
  obtain ⟨bc, hbc⟩ : ∃ x, ckE j l = x := ⟨_, rfl⟩
  rw [hbc] at HC
  have HBC := Lib.hid hbc
  have HJD := Lib.hid (show ∃ j', j' = j from ⟨_, rfl⟩)
  obtain ⟨jg, js, jd, jf, ju, jl, jy, ji⟩ := j
  unfold Jb.cs at HC ⊢
  simp only at HC ⊢
  clear hrow hwf hcl hlm hbc HJS HJD hjw
  refine (callsIn_wide (n := 6)).1 ?_
  refine callsIn_of_wp_marks Try.func52 rfl trivial ?_ rfl
  simp only [Try.ntmps52, List.size_toArray, List.length_cons, List.length_nil, Nat.reduceAdd, Nat.reduceSub, Array.replicate_succ, Array.replicate_zero, List.push_toArray, List.append_toArray, List.nil_append, List.cons_append]
  gi_wp2_with fail
  obtain ⟨W2, hW2⟩ : ∃ X, X = ((((w.alloc (.cells #[.int .i64 jg, .int .i64 js, .int .i64 jd, .int .i64 jf, .int .i64 ju, .int .i64 jl, .int .i64 jy, .int .i64 ji] 46)).alloc (.cells #[.slice (some ⟨b, o, none⟩) 1 c] 95)).alloc (.cells #[.slice none 0 0] 63)).alloc (.cells #[.int .i64 0] 27)) := ⟨_, rfl⟩
  have B2 : Below w.heap.size w W2 := by rw [hW2]; exact bel_alloc (bel_alloc (bel_alloc (bel_alloc (Below.refl _ _) _) _) _) _
  have b0 : W2.heap[w.heap.size]? = some (.cells (Jb.cs ⟨jg, js, jd, jf, ju, jl, jy, ji⟩) 46 (0, 0)) := by rw [hW2]; exact heap_below (heap_below (heap_below (heap_at w _ _ rfl) (bel_alloc (Below.refl _ _) _)) (bel_alloc (Below.refl _ _) _)) (bel_alloc (Below.refl _ _) _)
  have b1 : W2.heap[w.heap.size + 1]? = some (.cells #[.slice (some ⟨b, o, none⟩) 1 c] 95 (0, 0)) := by rw [hW2]; exact heap_below (heap_below (heap_at _ _ _ (by simp)) (bel_alloc (Below.refl _ _) _)) (bel_alloc (Below.refl _ _) _)
  have b2 : W2.heap[w.heap.size + 1 + 1]? = some (.cells #[.slice none 0 0] 63 (0, 0)) := by rw [hW2]; exact heap_below (heap_at _ _ _ (by simp)) (bel_alloc (Below.refl _ _) _)
  have b3 : W2.heap[w.heap.size + 1 + 1 + 1]? = some (.cells #[.int .i64 0] 27 (0, 0)) := by rw [hW2]; exact heap_at _ _ _ (by simp)
  rw [← hW2]
  have BB2 := Lib.hid B2
  have Bb0 := Lib.hid b0
  have Bb1 := Lib.hid b1
  have Bb2 := Lib.hid b2
  have Bb3 := Lib.hid b3
  clear hW2 B2 b0 b1 b2 b3
  refine ⟨trivial, ?_⟩
  refine (callsIn_wide.2 (HC.out W2 BB2.out)).mono ?_
  rintro e w3 ⟨rfl, hb3⟩
  have B3 := Lib.hid (bThen BB2.out hb3)
  have C0 := Lib.hid (heap_below Bb0.out hb3)
  have C1 := Lib.hid (heap_below Bb1.out hb3)
  have C2 := Lib.hid (heap_below Bb2.out hb3)
  have C3 := Lib.hid (heap_below Bb3.out hb3)
  clear hb3 BB2 Bb0 Bb1 Bb2 Bb3 HC
  have z0 := blk_lt C0.out
  have y0 := cellsAt C0.out 0
  have y1 := cellsAt C0.out 1
  have y2 := cellsAt C0.out 2
  have y3 := cellsAt C0.out 3
  have y4 := cellsAt C0.out 4
  have y5 := cellsAt C0.out 5
  have y6 := cellsAt C0.out 6
  have y7 := cellsAt C0.out 7
  have z2 := blk_lt C2.out
  have r2 := cellsAt C2.out 0
  have f2 := frozAt C2.out
  have z3 := blk_lt C3.out
  have r3 := cellsAt C3.out 0
  have f3 := frozAt C3.out
  simp [Jb.cs] at y0 y1 y2 y3 y4 y5 y6 y7 r2 r3
  have hbc3 : bc = 0 ∨ bc = 1 ∨ bc = 130 := by have := HBC.out; unfold ckE at this; split at this; split at this; exact .inl this.symm; exact .inr (.inl this.symm); exact .inr (.inr this.symm)
  rcases hbc3 with rfl | rfl | rfl
  rotate_left
  · gi_wp2_with fail
    have hne : (⟨w.heap.size + 1 + 1 + 1, 0, none⟩ : Addr).block ≠ w.heap.size + 1 + 1 := by simp
    have g2 := Boxed.set (.slice none 0 0) (show Boxed w3 (w.heap.size + 1 + 1) 63 (.slice none 0 0) from C2.out)
    have g3 := (show Boxed w3 (w.heap.size + 1 + 1 + 1) 27 (.int .i64 0) from C3.out).other (B' := w.heap.size + 1 + 1) (by omega) (.slice none 0 0)
    have hb : Below w.heap.size w ((w3.setCell ⟨w.heap.size + 1 + 1, 0, none⟩ (.slice none 0 0)).setCell ⟨w.heap.size + 1 + 1 + 1, 0, none⟩ (.int .i64 1)) := (B3.out.setCell (p := ⟨w.heap.size + 1 + 1, 0, none⟩) (by simp; omega) _).setCell (p := ⟨w.heap.size + 1 + 1 + 1, 0, none⟩) (by simp; omega) _
    have g4 := g2.other (B' := w.heap.size + 1 + 1 + 1) (by omega) (.int .i64 1)
    have g5 := g3.set (.int .i64 1)
    have k4 := g4.cell
    have k5 := g5.cell
    refine ⟨.tuple #[.slice none 0 0, .int .i64 1], by simp [results, Try.results52, go_sem, k4, k5], ?_⟩
    exact ⟨_, _, [], rfl, World.ownsRow_nil _ _ _ _, ⟨by simp, by simp⟩, fun e0 _ _ h1 h2 => by have := HBC.out; unfold ckE at this; rw [h1, h2] at this; simp at this, hb⟩
  · gi_wp2_with fail
    have hne : (⟨w.heap.size + 1 + 1 + 1, 0, none⟩ : Addr).block ≠ w.heap.size + 1 + 1 := by simp
    have g2 := Boxed.set (.slice none 0 0) (show Boxed w3 (w.heap.size + 1 + 1) 63 (.slice none 0 0) from C2.out)
    have g3 := (show Boxed w3 (w.heap.size + 1 + 1 + 1) 27 (.int .i64 0) from C3.out).other (B' := w.heap.size + 1 + 1) (by omega) (.slice none 0 0)
    have hb : Below w.heap.size w ((w3.setCell ⟨w.heap.size + 1 + 1, 0, none⟩ (.slice none 0 0)).setCell ⟨w.heap.size + 1 + 1 + 1, 0, none⟩ (.int .i64 130)) := (B3.out.setCell (p := ⟨w.heap.size + 1 + 1, 0, none⟩) (by simp; omega) _).setCell (p := ⟨w.heap.size + 1 + 1 + 1, 0, none⟩) (by simp; omega) _
    have g4 := g2.other (B' := w.heap.size + 1 + 1 + 1) (by omega) (.int .i64 130)
    have g5 := g3.set (.int .i64 130)
    have k4 := g4.cell
    have k5 := g5.cell
    refine ⟨.tuple #[.slice none 0 0, .int .i64 130], by simp [results, Try.results52, go_sem, k4, k5], ?_⟩
    exact ⟨_, _, [], rfl, World.ownsRow_nil _ _ _ _, ⟨by simp, by simp⟩, fun e0 _ _ h1 h2 => by have := HBC.out; unfold ckE at this; rw [h1, h2] at this; simp at this, hb⟩
  · have hjl : jR ⟨jg, js, jd, jf, ju, jl, jy, ji⟩ = true ∧ inB l = true := by have := HBC.out; unfold ckE at this; split at this; split at this; exact ⟨by assumption, by assumption⟩; simp at this; simp at this
    have HJL := Lib.hid hjl
    have HWE := Lib.hid (show ∀ e ∈ l, e.Wf ∧ evB e = true from fun e he => ⟨HWF.out e he, by have := hjl.2; unfold inB evsB at this; simp only [Bool.and_eq_true, List.all_eq_true] at this; exact this.2 e he⟩)
    have HL200 := Lib.hid (show l.length ≤ 200 by have := hjl.2; unfold inB at this; simp only [Bool.and_eq_true, decide_eq_true_eq] at this; exact this.1)
    clear hjl
    gi_wp2_with fail
    have hg := Boxed.new (w3.alloc (.cells #[.int .i64 jg, .int .i64 js, .int .i64 jd, .int .i64 jf, .int .i64 ju, .int .i64 jl, .int .i64 jy, .int .i64 ji, .slice none 0 0, .int .i64 0] 117)) 115 (.pointer (some ⟨w3.heap.size, 0, none⟩))
    have hf := Boxed.new ((w3.alloc (.cells #[.int .i64 jg, .int .i64 js, .int .i64 jd, .int .i64 jf, .int .i64 ju, .int .i64 jl, .int .i64 jy, .int .i64 ji, .slice none 0 0, .int .i64 0] 117)).alloc (.cells #[.pointer (some ⟨w3.heap.size, 0, none⟩)] 115)) 118 (.func (.func 70) #[.pointer (some ⟨w3.heap.size, 0, none⟩)] #[])
    simp only [World.size_alloc] at hg hf
    obtain ⟨W0, hW0⟩ : ∃ W0, ((w3.alloc (.cells #[.int .i64 jg, .int .i64 js, .int .i64 jd, .int .i64 jf, .int .i64 ju, .int .i64 jl, .int .i64 jy, .int .i64 ji, .slice none 0 0, .int .i64 0] 117)).alloc (.cells #[.pointer (some ⟨w3.heap.size, 0, none⟩)] 115)).alloc (.cells #[.func (.func 70) #[.pointer (some ⟨w3.heap.size, 0, none⟩)] #[]] 118) = W0 := ⟨_, rfl⟩
    have B0 : Below w3.heap.size w3 W0 := by rw [← hW0]; exact bel_alloc (bel_alloc (bel_alloc (Below.refl _ _) _) _) _
    have hsz : W0.heap.size = w3.heap.size + 3 := by rw [← hW0]; simp
    have hG0 : W0.heap[w3.heap.size]? = some (.cells (gCs ⟨jg, js, jd, jf, ju, jl, jy, ji⟩ (.slice none 0 0) 0) 117 (0, 0)) := by rw [← hW0]; exact heap_below (heap_below (heap_at w3 _ _ rfl) (bel_alloc (Below.refl _ _) _)) (bel_alloc (Below.refl _ _) _)
    have hP0 : Boxed W0 (w3.heap.size + 1) 115 (.pointer (some ⟨w3.heap.size, 0, none⟩)) := by rw [← hW0]; exact hg.alloc _
    have hF0 : Boxed W0 (w3.heap.size + 1 + 1) 118 (.func (.func 70) #[.pointer (some ⟨w3.heap.size, 0, none⟩)] #[]) := by rw [← hW0]; exact hf
    rw [hW0]
    clear hW0 hg hf y0 y1 y2 y3 y4 y5 y6 y7 r2 r3 f2 f3
    have hB0 : Below w.heap.size w W0 := bThen B3.out B0
    have hGl := Lib.hid (show w.heap.size ≤ w3.heap.size from B3.out.size)
    have h4 : w.heap.size + 4 ≤ W0.heap.size := by omega
    have hI0 : RnI ⟨jg, js, jd, jf, ju, jl, jy, ji⟩ w W0 w3.heap.size (w3.heap.size + 1) [] W0 := ⟨⟨_, [], ⟨⟨0, hG0⟩, World.ownsRow_nil _ _ _ _, Nat.zero_le _, fun q hq => by cases hq⟩, fun _ => rfl, fun x h => by cases h⟩, heap_below C2.out B0, heap_below C3.out B0, hP0, hF0, heap_below C0.out B0, hB0⟩
    refine wpIn_rangeFunc_Q rfl (by decide) (gf := 68) (lb := #[.pointer (some ⟨w.heap.size + 1, 0, none⟩), .pointer (some ⟨w.heap.size, 0, none⟩)]) rfl trivial (enters_of Try.func68 (by kernel_rfl) rfl)
      (all_seq 5 (by decide) ⟨jg, js, jd, jf, ju, jl, jy, ji⟩ l A l.length c c' b o (w.heap.size + 1) w.heap.size w W0 (heap_below C0.out B0) (heap_below C1.out B0) hbl HCL.out HROW.out rfl HL200.out HWE.out hB0) (by omega) (by simp) (Below.refl _ _) (fun _ => rfl)
      (RnI ⟨jg, js, jd, jf, ju, jl, jy, ji⟩ w W0 w3.heap.size (w3.heap.size + 1)) (RnX ⟨jg, js, jd, jf, ju, jl, jy, ji⟩ w) (rnI_ab _ w W0 _ _ h4 (by omega) (by omega)) (fun c => rnX_ab _ w W0 c h4) hI0
      (fun x a' W' => ∃ Bx, W0.heap.size + 8 ≤ Bx ∧ W'.heap[Bx]? = some (.cells #[.string x.1.k, .int .i64 x.1.t, .int .i64 x.1.v] 93 (0, 0)) ∧ a' = { tmps := #[.agg #[.int .i64 jg, .int .i64 js, .int .i64 jd, .int .i64 jf, .int .i64 ju, .int .i64 jl, .int .i64 jy, .int .i64 ji], .slice (some ⟨b, o, none⟩) 1 c, .pointer (some ⟨w.heap.size, 0, none⟩), .pointer (some ⟨w.heap.size + 1, 0, none⟩), .pointer (some ⟨w.heap.size + 1 + 1, 0, none⟩), .pointer (some ⟨w.heap.size + 1 + 1 + 1, 0, none⟩), .int .i64 0, .pointer (some ⟨w3.heap.size + 1, 0, none⟩), .func (.func 68) #[] #[.pointer (some ⟨w.heap.size + 1, 0, none⟩), .pointer (some ⟨w.heap.size, 0, none⟩)], .pointer (some ⟨w3.heap.size + 1 + 1, 0, none⟩), .pointer (some ⟨Bx, 0, none⟩), .agg #[.int .i64 jg, .int .i64 js, .int .i64 jd, .int .i64 jf, .int .i64 ju, .int .i64 jl, .int .i64 jy, .int .i64 ji], .slice (some ⟨b, o, none⟩) 1 c, .int .i64 0, .int .i64 0, .bool false, undef, .agg #[.int .i64 jg, .int .i64 js, .int .i64 jd, .int .i64 jf, .int .i64 ju, .int .i64 jl, .int .i64 jy, .int .i64 ji], .agg #[.int .i64 jg, .int .i64 js, .int .i64 jd, .int .i64 jf, .int .i64 ju, .int .i64 jl, .int .i64 jy, .int .i64 ji, .slice none 0 0, .int .i64 0], .pointer (some ⟨w3.heap.size, 0, none⟩), .func (.func 68) #[] #[.pointer (some ⟨w.heap.size + 1, 0, none⟩), .pointer (some ⟨w.heap.size, 0, none⟩)], .pointer (some ⟨w3.heap.size, 0, none⟩), .func (.func 70) #[.pointer (some ⟨w3.heap.size, 0, none⟩)] #[], .func (.func 68) #[] #[.pointer (some ⟨w.heap.size + 1, 0, none⟩), .pointer (some ⟨w.heap.size, 0, none⟩)], .agg #[.string x.1.k, .int .i64 x.1.t, .int .i64 x.1.v], undef, undef, undef, undef, undef, undef, undef, undef, undef, undef, undef, undef, undef, undef, undef], defers := [] })
      (fun x a' => boxAx_ab _ _ _ _ rfl a')
      ?assign ?body ?done ?stop
    case assign =>
      intro l' pre x W' Kc hsW hI hK
      unfold evE
      gi_wp2
      exact hK _ _ (KeptQ.bel (bel_alloc (Below.refl _ _) _) (by omega)) ((rnI_ab _ w W0 _ _ h4 (by omega) (by omega)).new _ hI) ⟨W'.heap.size, hsW, heap_at _ _ _ rfl, rfl⟩
    case body =>
      rintro l' pre x a' W' hsW ⟨⟨vl, pl, hga, hp0, hp1⟩, k1, k2, k3, k4, k5, k6⟩ ⟨Bx, hB1, hB2, rfl⟩ hlt
      obtain ⟨⟨xk, xt, xv⟩, hxw, hxe⟩ := x
      simp only at hB2
      have hxt : 0 ≤ xt ∧ xt < 1099511627776 := by unfold evB at hxe; simp at hxe; exact ⟨hxe.1.2, hxe.2⟩
      have hRR : wR js jd = true := by have := HJL.out.1; unfold jR at this; simp only [Bool.and_eq_true] at this; exact this.1.1.1.1.1.1.1.1.2
      have hl200 := HL200.out
      have HT := Lib.hid (take_any w3.heap.size (W0.heap.size + 8) (16 * pre.length) ⟨jg, js, jd, jf, ju, jl, jy, ji⟩ vl pl ⟨xk, xt, xv⟩ W' hga (by omega) (by omega) (by omega) hxw hxt.1 hxt.2 hRR)
      have HP0 := Lib.hid hp0
      have HP1 := Lib.hid hp1
      have K1 := Lib.hid k1
      have K2 := Lib.hid k2
      have K3 := Lib.hid k3
      have K4 := Lib.hid k4
      have K5 := Lib.hid k5
      have K6 := Lib.hid k6
      have HGA := Lib.hid hga
      have q3 := k3.cell
      have q4 := k4.cell
      have zx := blk_lt hB2
      have x0 := cellsAt hB2 0
      have x1 := cellsAt hB2 1
      have x2 := cellsAt hB2 2
      simp at x0 x1 x2
      have HLT := Lib.hid hlt
      clear hp0 hp1 k1 k2 k3 k4 k5 k6 hga hxt hRR hlt hB2
      gi_wp2_with fail
      refine ⟨trivial, ?_⟩
      refine (CallsIn.inRound l' (callsIn_wide.2 HT.out)).mono ?_
      rintro e w5 ⟨⟨ok, vl5, pl5, rfl, hga5, hone5⟩, hg5⟩
      have HGA5 := Lib.hid hga5
      have HONE5 := Lib.hid hone5
      have HG5 := Lib.hid hg5
      clear hga5 hone5 hg5
      have L1 := Lib.hid (K1.out.kept HG5.out (by simp; omega))
      have L2 := Lib.hid (K2.out.kept HG5.out (by simp; omega))
      have L3 := Lib.hid (K3.out.kept HG5.out (by simp))
      have L4 := Lib.hid (K4.out.kept HG5.out (by simp; omega))
      have L5 := Lib.hid (heap_grown' K5.out HG5.out (by simp; omega))
      have L6 := Lib.hid (K6.out.grown HG5.out (by omega) (fun k e => by cases e; omega))
      have hgl := hGl.out
      have KK := Lib.hid (show KeptQ w.heap.size [] W0.heap.size 8 W' w5 from KeptQ.grown HG5.out (by omega) (fun k e => by cases e; exact ⟨by omega, by simp, by obtain ⟨⟨bad, hb⟩, -⟩ := HGA.out; exact ⟨_, hb, rfl⟩, .inl (by omega)⟩))
      clear x0 x1 x2 q3 q4
      cases ok with
      | true =>
        gi_wp2_with fail
        refine ⟨KK.out, ⟨vl5, pl5, by simpa [Nat.mul_add] using HGA5.out, fun h => by simp at h, fun y hy h2 => ?_⟩, L1.out, L2.out, L3.out, L4.out, L5.out, L6.out⟩
        have hpre : pre = [] := by
          cases pre with
          | nil => rfl
          | cons a t => have := congrArg List.length hy; simp at this
        subst hpre
        simp at hy
        subst hy
        exact (HONE5.out (HP0.out rfl) h2).2
      | false =>
        have r1 := L1.out.cell
        have s1 := L1.out.frozen
        have r2 := L2.out.cell
        have s2 := L2.out.frozen
        have r3 := L3.out.cell
        have hmix : Try.prog.follows .mixedOrders = true := by kernel_rfl
        obtain ⟨⟨bad, hgb⟩, -⟩ := HGA5.out
        have zb := blk_lt hgb
        have g9 := cellsAt hgb 9
        simp [gCs] at g9
        have z1 := L1.out.lt
        have z2 := L2.out.lt
        gi_wp2_with fail
        gi_region_with_o fail
        all_goals
          have D1 : Boxed w5.drew (w.heap.size + 1 + 1) 63 (.slice none 0 0) := L1.out
          have D2 : Boxed w5.drew (w.heap.size + 1 + 1 + 1) 27 (.int .i64 0) := L2.out
          have KD : KeptQ w.heap.size [] W0.heap.size 8 w5 w5.drew := KeptQ.bel (Below.drew (Below.refl _ _)) L6.out.size
          have M1 := D1.set (.slice none 0 0)
          have M2 := D2.other (B' := w.heap.size + 1 + 1) (by omega) (.slice none 0 0)
          have M3 := M2.set (.int .i64 bad)
          have M4 := M1.other (B' := w.heap.size + 1 + 1 + 1) (by omega) (.int .i64 bad)
          have KF := Lib.hid (((KK.out.trans KD).trans (keptQ_set (n0 := w.heap.size) (B := W0.heap.size) (K := 8) D1 (by omega) (by omega) (.slice none 0 0))).trans (keptQ_set (n0 := w.heap.size) (B := W0.heap.size) (K := 8) M2 (by omega) (by omega) (.int .i64 bad)))
          have HM3 := Lib.hid M3
          have HM4 := Lib.hid M4
          clear D1 D2 KD M1 M2 M3 M4 r1 s1 r2 s2 r3 g9
          gi_wp2_with fail
          exact ⟨KF.out, rfl, HM4.out, ⟨bad, HM3.out⟩, K6.out.trans KF.out.low, (fun y hy h2 => by
            have hpre : pre = [] := by
              cases pre with
              | nil => rfl
              | cons a t => have := congrArg List.length hy; simp at this
            subst hpre
            simp at hy
            subst hy
            have := (HONE5.out (HP0.out rfl) h2).1
            cases this), by simp⟩
    case done =>
      rintro D ys W' hD hS ⟨⟨vl, pl, hga, hp0, hp1⟩, k1, k2, k3, k4, k5, k6⟩ hK
      obtain ⟨⟨bad, hgb⟩, hown, hlc, hM⟩ := hga
      have hl200 := HL200.out
      have hyl : ys.length ≤ l.length := kpL_len hS
      have hmix : Try.prog.follows .mixedOrders = true := by kernel_rfl
      obtain ⟨Al, cl, hal⟩ := own_slice hown
      obtain ⟨nl, hnl⟩ : ∃ n, pl.length = n := ⟨_, rfl⟩
      have HNL := Lib.hid hnl
      rw [hnl] at hal
      subst hal
      have HRS := Lib.hid (fun W (hb : Below W'.heap.size W' W) => results_any jf pl (.slice Al nl cl) W (Row.of_own Pn.cs_len (own_below hown hb) rfl) (fun q hq => (hM q hq).1) (by unfold maxLen; omega))
      have HS := Lib.hid hS
      have HM := Lib.hid hM
      have HP1 := Lib.hid hp1
      have K1 := Lib.hid k1
      have K2 := Lib.hid k2
      have K6 := Lib.hid k6
      have HD := Lib.hid hK
      have zb := blk_lt hgb
      have g8 := cellsAt hgb 8
      have q3 := k3.cell
      have z3 := k3.lt
      have z5 := blk_lt k5
      have j3 := cellsAt k5 3
      simp [gCs, Jb.cs] at g8 j3
      clear hp0 hp1 k1 k2 k3 k4 k5 k6 hown hlc hM hK hS hnl hgb
      gi_wp2_with fail
      refine wpIn_noP ?_
      gi_region_with_o (first | (refine ⟨trivial, ?_⟩; gi_at_call 55; refine (callsIn_wide.2 (HRS.out W'.drew (Below.drew (Below.refl _ _)))).mono ?_; rintro e w5 ⟨vr, qs, rfl, hoq, hqi, hqs, hb5⟩; obtain ⟨Ar, cr, rfl⟩ := own_slice hoq; have r1 := Boxed.cell (heap_below K1.out (bUndrew hb5)); have s1 := Boxed.frozen (heap_below K1.out (bUndrew hb5)); have r2 := Boxed.cell (heap_below K2.out (bUndrew hb5)); have s2 := Boxed.frozen (heap_below K2.out (bUndrew hb5))))
      all_goals
        have D1 : Boxed w5 (w.heap.size + 1 + 1) 63 (.slice none 0 0) := heap_below K1.out (bUndrew hb5)
        have D2 : Boxed w5 (w.heap.size + 1 + 1 + 1) 27 (.int .i64 0) := heap_below K2.out (bUndrew hb5)
        have M1 := D1.set (.slice Ar qs.length cr)
        have M2 := D2.other (B' := w.heap.size + 1 + 1) (by omega) (.slice Ar qs.length cr)
        have M3 := M2.set (.int .i64 0)
        have M4 := M1.other (B' := w.heap.size + 1 + 1 + 1) (by omega) (.int .i64 0)
        have hzW : w.heap.size + 1 + 1 + 1 < W'.drew.heap.size := K2.out.lt
        have O1 := own_set (own_set hoq (p := ⟨w.heap.size + 1 + 1, 0, none⟩) (by simp only; omega) (.slice Ar qs.length cr)) (p := ⟨w.heap.size + 1 + 1 + 1, 0, none⟩) (by simp only; omega) (.int .i64 0)
        have hDW : D < W'.heap.size := blk_lt HD.out
        have hd1 : D ≠ w.heap.size + 1 + 1 := by omega
        have hd2 : D ≠ w.heap.size + 1 + 1 + 1 := by omega
        have D5 := heap_below HD.out (bUndrew hb5)
        have BE := Lib.hid (((K6.out.trans ((bUndrew hb5).mono K6.out.size)).setCell (p := ⟨w.heap.size + 1 + 1, 0, none⟩) (by simp only; omega) (.slice Ar qs.length cr)).setCell (p := ⟨w.heap.size + 1 + 1 + 1, 0, none⟩) (by simp only; omega) (.int .i64 0))
        have DF : (((w5.setCell ⟨w.heap.size + 1 + 1, 0, none⟩ (.slice Ar qs.length cr)).setCell ⟨w.heap.size + 1 + 1 + 1, 0, none⟩ (.int .i64 0)).heap[D]?) = some (.deferred (some [])) := by
          rw [Below.heap_setCell _ _ _ _ hd2, Below.heap_setCell _ _ _ _ hd1]
          exact D5
        have HM3 := Lib.hid M3
        have HM4 := Lib.hid M4
        have HDF := Lib.hid DF
        have HO1 := Lib.hid O1
        have HQI := Lib.hid hqi
        have HQS := Lib.hid hqs
        clear M1 M2 M3 M4 D1 D2 DF O1 hqi hqs hoq D5 r1 s1 r2 s2 hzW g8 q3 j3
        simp only [noP]
        gi_wp2_with fail
        refine ⟨by simp, .inl ⟨_, _, rfl, run_takeDeferred HDF.out, ?_⟩⟩
        obtain ⟨WF, hWF⟩ : ∃ X, (w5.setCell ⟨w.heap.size + 1 + 1, 0, none⟩ (.slice Ar qs.length cr)).setCell ⟨w.heap.size + 1 + 1 + 1, 0, none⟩ (.int .i64 0) = X := ⟨_, rfl⟩
        rw [hWF] at HM3 HM4 HDF HO1 BE ⊢
        have hput : WF.grownBy (WF.putObj D (.deferred none)) (some D) := grownBy_putObj' WF D _
        have M1 := HM4.out.kept hput (by simp; omega)
        have M2 := HM3.out.kept hput (by simp; omega)
        have m1 := M1.cell
        have m2 := M2.cell
        refine ⟨.tuple #[.slice Ar qs.length cr, .int .i64 0], by simp [results, Try.results52, go_sem, m1, m2], ?_⟩
        refine ⟨_, _, qs, rfl, own_base (ownsRow_putObj HO1.out _ HDF.out rfl) (show w.heap.size ≤ W'.heap.size from K6.out.size), ?_, fun e0 h0 h1 h2 h3 => ⟨rfl, ?_⟩, BE.out.grown hput BE.out.size (fun k e => by cases e; omega)⟩
        · have h9 := HQS.out
          split at h9
          · rename_i hc
            have hlen : qs.length = pl.length := by rw [← h9, List.length_map]
            have hpr := hc.1
            unfold prB at hpr
            simp only [Bool.and_eq_true, decide_eq_true_eq, List.all_eq_true] at hpr
            refine ⟨by rw [hlen]; exact hpr.1, fun q hq => ?_⟩
            have hqm : q.1 ∈ pl := by rw [← h9]; exact List.mem_map_of_mem hq
            refine ⟨?_, (HM.out _ hqm).1, HQI.out q hq, by have := (HM.out _ hqm).2.2; omega⟩
            obtain ⟨i, hi, he⟩ := List.getElem_of_mem hqm
            have := hpr.2 i (List.mem_range.2 hi)
            unfold pokAt at this
            simp only [Bool.and_eq_true] at this
            rw [pn_get (p := q.1) (by rw [List.getElem?_eq_getElem hi, he])] at this
            exact this.1
          · subst h9
            exact ⟨by simp, by simp⟩
        · subst h0
          obtain ⟨x, v, hx1, hx2⟩ := kpL_one HS.out (by rw [h1.2.2.1]; omega)
          subst hx1
          have h8 := HP1.out x rfl (by rw [hx2]; exact h1)
          have h9 := HQS.out
          rw [if_pos ⟨h8.2, h1.2.2.2.1⟩] at h9
          have := congrArg List.length h9
          rw [List.length_map] at this
          rw [this]
          exact h8.1
    case stop =>
      rintro D c pre W' hD hSp ⟨rfl, k1, ⟨er, k2⟩, k6, k7, k8⟩ hK
      have HD := Lib.hid hK
      have HSP := Lib.hid hSp
      have K7 := Lib.hid k7
      have K6 := Lib.hid k6
      have K1 := Lib.hid k1
      have K2 := Lib.hid k2
      clear hK hSp k1 k2 k6 k7
      gi_wp2_with fail
      refine ⟨by simp, .inl ⟨_, _, rfl, run_takeDeferred HD.out, ?_⟩⟩
      have hput : W'.grownBy (W'.putObj D (.deferred none)) (some D) := grownBy_putObj' W' D _
      have hd1 : D ≠ w.heap.size + 1 + 1 := by omega
      have hd2 : D ≠ w.heap.size + 1 + 1 + 1 := by omega
      have M1 := K1.out.kept hput (by simp; omega)
      have M2 := K2.out.kept hput (by simp; omega)
      have m1 := M1.cell
      have m2 := M2.cell
      refine ⟨.tuple #[.slice none 0 0, .int .i64 er], by simp [results, Try.results52, go_sem, m1, m2], ?_⟩
      refine ⟨_, _, [], rfl, World.ownsRow_nil _ _ _ _, ⟨by simp, by simp⟩, fun e0 h0 h1 h2 h3 => ?_, K6.out.grown hput K6.out.size (fun k e => by cases e; omega)⟩
      exfalso
      obtain ⟨xs', hx'⟩ := HSP.out
      subst h0
      rcases hx' with ⟨h4, -⟩ | ⟨-, v, xs2, -, h5, h6⟩
      · have := h1.2.2.1
        omega
      · rw [show xs2 = [] from h6] at h5
        cases pre with
        | nil => exact k8 rfl
        | cons x t =>
          cases t with
          | nil =>
            refine K7.out x rfl ?_
            rw [List.map_cons, List.cons_append] at h5
            injection h5 with h7 h8
            rw [h7]
            exact h1
          | cons y t => simp at h5
end Go.Proofs.Ytlboehpgpbchhaa
