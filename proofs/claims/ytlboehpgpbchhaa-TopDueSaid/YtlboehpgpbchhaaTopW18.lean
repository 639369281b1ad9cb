/-
  WALKS of the top laws: the windows that hold a time.
-/
import Derived.Test.YtlboehpgpbchhaaTopW16
set_option linter.unusedVariables false
set_option linter.unusedSimpArgs false
namespace Go.Proofs.Ytlboehpgpbchhaa
open Go.RowKit Go.Shelf
attribute [local go_sem] Oper.semAt_some

theorem back_any (s d t : Int) (w : World) : Calls Try.prog 100 #[.int .i64 s, .int .i64 d, .int .i64 t] w fun e w' =>
    e = .returned (.func (.func 113) #[] #[.pointer (some ⟨w.heap.size + 1 + 1, 0, none⟩), .pointer (some ⟨w.heap.size + 1, 0, none⟩), .pointer (some ⟨w.heap.size, 0, none⟩)]) ∧
    w' = ((w.alloc (.cells #[.int .i64 s] 2)).alloc (.cells #[.int .i64 d] 2)).alloc (.cells #[.int .i64 t] 2) := by
  go_enter Try.func100, Try.ntmps100
  go_wp2_with fail
  go_ret
  exact ⟨rfl, rfl⟩
theorem info_wn : (Try.prog.info? 55).map (fun i => (i.zero, i.size, i.bytes)) = some (some (.agg #[.int .i64 0, .int .i64 0]), 2, 16) := by kernel_rfl
def OfTo (s d t : Int) (w : World) (e : Ending) (w' : World) : Prop :=
  ∃ (v : Value) (l : List Wn), e = .returned v ∧ w'.ownsRow w.heap.size 55 2 v l.length (l.flatMap Wn.cs) ∧ l.length ≤ 16 ∧ (∀ x ∈ l, i64B x.lo ∧ i64B x.hi) ∧ (s = 1 ∧ d = 1 ∧ t = 0 → l = [⟨0, 1⟩]) ∧ Below w.heap.size w w'
/-- What the loop's own cells hold. -/
def OfI (w0 W0 : World) (pre : List Wn) (W : World) : Prop :=
  (∃ v, Boxed W w0.heap.size 139 v ∧ W.ownsRow (W0.heap.size + 2) 55 2 v pre.length (pre.flatMap Wn.cs)) ∧ Below w0.heap.size w0 W
theorem ofI_ab (w0 W0 : World) (h : w0.heap.size < W0.heap.size) : AbQ W0.heap.size 2 (OfI w0 W0) := by
  rintro pre A B row ⟨⟨v, hb, ho⟩, hB⟩ hgr hr
  refine ⟨⟨v, hb.kept hgr (fun e => ?_), ho.kept hgr ?_⟩, hB.grown hgr hB.size (fun k e => by have := (hr k e).1; omega)⟩
  · obtain ⟨h1, h2⟩ := hr _ e.symm
    omega
  · rcases ho.2 with ⟨rfl, _⟩ | ⟨g, cap, cur, rfl, h3, hgb, _⟩
    · exact .inl rfl
    · refine .inr fun e => ?_
      obtain ⟨h1, h2⟩ := hr _ e.symm
      simp only at h1 h2
      rcases h2 with h2 | ⟨o, ho', hc⟩
      · omega
      · rw [hgb] at ho'
        cases ho'
        cases hc
theorem wn_news (W : World) (a b : Int) : ∀ j u, [Value.int .i64 a, .int .i64 b][j]? = some u → (W.alloc (.cells #[.int .i64 a, .int .i64 b] 55)).cell? ((⟨W.heap.size, 0, none⟩ : Addr).add j) = some u := by
  intro j u hj
  rw [add_at, cellsAt (heap_at W _ _ rfl), Nat.zero_add, ← hj]
  exact Array.getElem?_toList.symm
theorem wnS_le {s d t : Int} {xs : List Wn} (hR : wR s d = true) (ht : 0 ≤ t) (h : WnS s d t xs) : xs.length ≤ 16 := by
  obtain ⟨k, rfl, h1, -⟩ := h
  simp
  by_cases hk : k ≤ 16
  · exact hk
  · have := wn_16 hR ht (h1 16 (by omega))
    omega
theorem wnS_i64 {s d t : Int} {xs : List Wn} (ht : 0 ≤ t) (ht2 : t < 1099511627776) (hd : 1 ≤ d) (h : WnS s d t xs) : ∀ x ∈ xs, i64B x.lo ∧ i64B x.hi := by
  obtain ⟨k, rfl, h1, -⟩ := h
  intro x hx
  obtain ⟨i, hi, rfl⟩ := List.mem_map.1 hx
  have h2 := h1 i (List.mem_range.1 hi)
  unfold wnIn at h2
  have h3 := Int.emod_nonneg t (show d ≠ 0 by omega)
  have h4 : (0 : Int) ≤ (i : Int) * d := Int.mul_nonneg (by omega) (by omega)
  have h5 := tAt_lo (tAt (t - t % d - i * d) + tAt s)
  have h6 := tAt_hi (tAt (t - t % d - i * d) + tAt s)
  unfold wnAt i64B
  simp only
  omega
theorem wnS_one {xs : List Wn} (h : WnS 1 1 0 xs) : xs = [⟨0, 1⟩] := by
  obtain ⟨k, rfl, h1, h2⟩ := h
  unfold wnIn at h1 h2
  have hk : k = 1 := by
    rcases Nat.lt_trichotomy k 1 with h | h | h
    · obtain rfl : k = 0 := by omega
      simp at h2
    · exact h
    · have := h1 1 h
      simp at this
  subst hk
  rfl
set_option maxRecDepth 100000 in
set_option maxHeartbeats 4000000 in
theorem of_any (s d t : Int) (w : World) (hR : wR s d = true) (ht : 0 ≤ t) (ht2 : t < 1099511627776) :
    Calls Try.prog 86 #[.int .i64 s, .int .i64 d, .int .i64 t] w (OfTo s d t w) := by
  have HW := Lib.hid (fun w => wright_any s d w)
  rw [hR] at HW
  have HR := Lib.hid hR
  clear hR
  refine (callsIn_wide (n := 4)).1 ?_
  refine callsIn_of_wp_marks Try.func86 rfl trivial ?_ rfl
  simp only [Try.ntmps86, List.size_toArray, List.length_cons, List.length_nil, Nat.reduceAdd, Nat.reduceSub, Array.replicate_succ, Array.replicate_zero, List.push_toArray, List.append_toArray, List.nil_append, List.cons_append]
  gi_wp2_with (first | (refine ⟨trivial, ?_⟩; gi_at_call 50; refine (callsIn_wide.2 (HW.out _)).mono ?_; rintro e w' ⟨rfl, rfl⟩) | (refine ⟨trivial, ?_⟩; gi_at_call 100; refine (callsIn_wide.2 (back_any s d t _)).mono ?_; rintro e w' ⟨rfl, rfl⟩))
  obtain ⟨w, rfl⟩ : ∃ X, X = w' := ⟨_, rfl⟩
  have bO := Boxed.new w 139 (.slice none 0 0)
  have bS := Boxed.new (w.alloc (.cells #[.slice none 0 0] 139)) 2 (.int .i64 s)
  have bD := Boxed.new ((w.alloc (.cells #[.slice none 0 0] 139)).alloc (.cells #[.int .i64 s] 2)) 2 (.int .i64 d)
  have bT := Boxed.new (((w.alloc (.cells #[.slice none 0 0] 139)).alloc (.cells #[.int .i64 s] 2)).alloc (.cells #[.int .i64 d] 2)) 2 (.int .i64 t)
  simp only [World.size_alloc] at bS bD bT
  obtain ⟨W0, hW0⟩ : ∃ W0, (((w.alloc (.cells #[.slice none 0 0] 139)).alloc (.cells #[.int .i64 s] 2)).alloc (.cells #[.int .i64 d] 2)).alloc (.cells #[.int .i64 t] 2) = W0 := ⟨_, rfl⟩
  have B0 : Below w.heap.size w W0 := by rw [← hW0]; exact bel_alloc (bel_alloc (bel_alloc (bel_alloc (Below.refl _ _) _) _) _) _
  have hsz : W0.heap.size = w.heap.size + 4 := by rw [← hW0]; simp
  have bO' : Boxed W0 w.heap.size 139 (.slice none 0 0) := by rw [← hW0]; exact ((bO.alloc _).alloc _).alloc _
  have bS' : Boxed W0 (w.heap.size + 1) 2 (.int .i64 s) := by rw [← hW0]; exact (bS.alloc _).alloc _
  have bD' : Boxed W0 (w.heap.size + 1 + 1) 2 (.int .i64 d) := by rw [← hW0]; exact bD.alloc _
  have bT' : Boxed W0 (w.heap.size + 1 + 1 + 1) 2 (.int .i64 t) := by rw [← hW0]; exact bT
  rw [hW0]
  clear hW0 bO bS bD bT
  obtain ⟨i0, hi, hz0, hz1, hz2⟩ := info_parts info_wn
  refine wpIn_rangeFunc_Q rfl (by decide) (gf := 113) (lb := #[.pointer (some ⟨w.heap.size + 1 + 1 + 1, 0, none⟩), .pointer (some ⟨w.heap.size + 1 + 1, 0, none⟩), .pointer (some ⟨w.heap.size + 1, 0, none⟩)]) rfl trivial (enters_of Try.func113 (by kernel_rfl) rfl)
    (back1_seq 3 (by decide) s d t (w.heap.size + 1) (w.heap.size + 1 + 1) (w.heap.size + 1 + 1 + 1) w.heap.size W0 bS' bD' bT' HR.out ht ht2) (by omega) (by simp; omega) (Below.refl _ _) (fun _ => rfl)
    (OfI w W0) (fun _ _ _ => False) (ofI_ab w W0 (by omega)) (fun _ _ _ _ _ h _ _ => h) ⟨⟨_, bO', World.ownsRow_nil _ _ _ _⟩, B0⟩
    (fun x a' W => ∃ B, W0.heap.size + 2 ≤ B ∧ W.heap[B]? = some (.cells #[.int .i64 x.lo, .int .i64 x.hi] 55 (0, 0)) ∧ a' = { tmps := #[.int .i64 s, .int .i64 d, .int .i64 t, undef, undef, undef, .slice none 0 0, .pointer (some ⟨w.heap.size, 0, none⟩), .pointer (some ⟨B, 0, none⟩), .int .i64 s, .int .i64 d, .bool true, .bool false, .bool false, .int .i64 t, .bool (decide (t < 0)), .bool (decide (t < 0)), .bool (decide (t < 0)), .int .i64 t, .bool (decide (1099511627776 ≤ t)), .bool (decide (t < 0) || decide (1099511627776 ≤ t)), .int .i64 s, .int .i64 d, .int .i64 t, .func (.func 113) #[] #[.pointer (some ⟨w.heap.size + 1 + 1 + 1, 0, none⟩), .pointer (some ⟨w.heap.size + 1 + 1, 0, none⟩), .pointer (some ⟨w.heap.size + 1, 0, none⟩)], .agg #[.int .i64 x.lo, .int .i64 x.hi], undef, undef, undef, undef, undef, undef, undef], defers := [] })
    (fun x a' => boxAx_ab _ _ _ _ rfl a')
    ?assign ?body ?done ?stop
  case assign =>
    intro l pre x W K hsW hI hK
    unfold wnE
    gi_wp2
    have hn0 : w.heap.size ≤ W.heap.size := by omega
    exact hK _ _ (KeptQ.bel (bel_alloc (Below.refl _ _) _) hn0) ((ofI_ab w W0 (by omega)).new _ hI) ⟨W.heap.size, hsW, heap_at _ _ _ rfl, rfl⟩
  case body =>
    rintro l pre x a' W hsW ⟨⟨v, hv, hrow⟩, hB⟩ ⟨B, hB1, hB2, rfl⟩ hlt
    have hc := hv.cell
    have zb := blk_lt hB2
    have x0 := cellsAt hB2 0
    have x1 := cellsAt hB2 1
    simp at x0 x1
    gi_wp2_with (gi_at_builtin; refine wpListIn_append_own _ rfl _ _ 139 rfl (W0.heap.size + 2) 55 i0 (.agg #[.int .i64 0, .int .i64 0]) 2 16 Try.underlying139 hi hz0 hz1 hz2 rfl (by decide) _ _ _ rfl (hrow.alloc _) ⟨W.heap.size, 0, none⟩ 1 1 [.int .i64 x.lo, .int .i64 x.hi] rfl rfl (wn_news W x.lo x.hi) (by simp [Value.oneCell']) (by unfold maxLen; omega) (by omega) (by simp; omega) ?_; intro v' w1 hown' hgrow _; obtain ⟨g', cap', rfl⟩ := ownsRow_succ hown'; obtain ⟨hv1, hv2, hr2, hk2⟩ := push_q (n0 := w.heap.size) (ks := [w.heap.size + 1 + 1 + 1, w.heap.size + 1 + 1, w.heap.size + 1]) hv hrow (Nat.le_refl _) (by omega) (by simp; omega) hsW hown' hgrow; have hc1 := hv1.cell; have hf1 := hv1.frozen)
    exact ⟨hk2, ⟨_, hv2, by simpa [Wn.cs] using hr2⟩, hB.trans hk2.low⟩
  case done =>
    rintro D ys W hD hS ⟨⟨v, hv, hrow⟩, hB⟩ hK
    have hc := hv.cell
    have hys := wnS_le HR.out ht hS
    have HI := Lib.hid (wnS_i64 ht ht2 (by have := HR.out; unfold wR at this; simp at this; exact this.1.1.1) hS)
    have HS := Lib.hid hS
    have HB := Lib.hid hB
    have HV := Lib.hid hv
    have HRW := Lib.hid hrow
    have HD := Lib.hid hK
    clear hS hB
    gi_wp2_with (refine ⟨trivial, ?_⟩; gi_at_call 101; refine (callsIn_wide.2 (wreverse_any (W0.heap.size + 2) ys v W hrow (by omega))).mono ?_; rintro e w2 ⟨⟨l', ho2, hl2, hsub⟩, ⟨u, rfl⟩, hg2⟩; have hv2 : Boxed w2 w.heap.size 139 v := HV.out.kept hg2 (fun e => by have := (HRW.out.lt _ e.symm).1; omega); have hc2 := hv2.cell)
    have hK2 : w2.heap[D]? = some (.deferred (some [])) := by
      rw [hg2.block D (blk_lt HD.out) (fun e => ?_)]
      · exact HD.out
      · rcases HRW.out.2 with ⟨rfl, _⟩ | ⟨g, cap, cur, rfl, _, hgb, _⟩
        · cases e
        · have h1 : D = g := by simpa [Value.ownBlock] using e
          subst h1
          rw [HD.out] at hgb
          cases hgb
    refine ⟨by simp, .inl ⟨_, _, rfl, run_takeDeferred hK2, ?_⟩⟩
    refine ⟨_, results_tmp rfl _ _ _, v, l', rfl, ?_, by omega, fun x hx => HI.out x (hsub x hx), ?_, ?_⟩
    · rw [hl2]
      exact own_base (ownsRow_putObj ho2 _ hK2 rfl) (by omega)
    · rintro ⟨rfl, rfl, rfl⟩
      obtain rfl := wnS_one HS.out
      match l', hl2, hsub with
      | [y], _, hs => exact congrArg (fun z => [z]) (by simpa using hs y (by simp))
    · have hb2 : Below w.heap.size w w2 := HB.out.grown hg2 HB.out.size (fun k hk => by have := (HRW.out.lt k hk).1; omega)
      exact hb2.trans (belowK_b (w := w) (Nat.le_refl _) w2 D _ _ (by omega) hK2 rfl rfl)
  case stop =>
    rintro D c pre W _ _ h _
    exact h.elim
end Go.Proofs.Ytlboehpgpbchhaa
