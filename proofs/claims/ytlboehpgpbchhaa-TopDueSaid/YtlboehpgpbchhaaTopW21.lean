/-
  WALKS of the top laws: all events of a job's inputs: the iterator over an iterator.
-/
import Derived.Test.YtlboehpgpbchhaaTopW20
set_option linter.unusedVariables false
set_option linter.unusedSimpArgs false
namespace Go.Proofs.Ytlboehpgpbchhaa
open Go.RowKit Go.Shelf
attribute [local go_sem] Oper.semAt_some

set_option maxRecDepth 100000 in
set_option maxHeartbeats 4000000 in
theorem all_seq (n : Nat) (hn : 3 ≤ n) (j : Jb) (l : List Ev) (A : Option Addr) (ln c c' b o bi bj : Nat) (w0 w : World) (hj : w.heap[bj]? = some (.cells j.cs 46 (0, 0))) (hi : w.heap[bi]? = some (.cells #[.slice (some ⟨b, o, none⟩) 1 c] 95 (0, 0)))
    (hb0 : b < w0.heap.size) (hc : w0.cell? ⟨b, o, none⟩ = some (.slice A ln c'))
    (hrow : Row Ev.cs 3 w0 (.slice A ln c') l) (hln : l.length = ln) (hlen : l.length ≤ 200) (hwf : ∀ e ∈ l, e.Wf ∧ evB e = true) (hb : Below w0.heap.size w0 w) :
    SeqQ Fence.wide n Try.prog 68 #[.pointer (some ⟨bi, 0, none⟩), .pointer (some ⟨bj, 0, none⟩)] evE w0.heap.size [] 6 (fun xs => KpL j 0 l (xs.map Subtype.val)) (fun pre => ∃ xs', KpL j 0 l (pre.map Subtype.val ++ xs')) ln w := by
  intro L J Jx W hW hJ hJx hY h0
  have HY := Lib.hid hY
  have HJ := Lib.hid hJ
  have HJx := Lib.hid hJx
  have HROW := Lib.hid hrow
  have HWF := Lib.hid hwf
  have HLN := Lib.hid hln
  have HLE := Lib.hid hlen
  have BW := Lib.hid (show Below w0.heap.size w0 W from bThen hb hW)
  have bJ := heap_below hj hW
  have bI := heap_below hi hW
  have zj := blk_lt bJ
  have zi := blk_lt bI
  have i0 := cellsAt bI 0
  have cW := (BW.out.cell (p := ⟨b, o, none⟩) hb0).trans hc
  have zb : b < W.heap.size := Nat.lt_of_lt_of_le hb0 BW.out.size
  obtain ⟨jg, js, jd, jf, ju, jl, jy, ji⟩ := j
  have y0 := cellsAt bJ 0
  have y1 := cellsAt bJ 1
  have y2 := cellsAt bJ 2
  have y3 := cellsAt bJ 3
  have y4 := cellsAt bJ 4
  have y5 := cellsAt bJ 5
  have y6 := cellsAt bJ 6
  have y7 := cellsAt bJ 7
  simp [Jb.cs] at y0 y1 y2 y3 y4 y5 y6 y7 i0
  have BJ := Lib.hid bJ
  have hK := Lib.hid (fun w => kept_any ⟨jg, js, jd, jf, ju, jl, jy, ji⟩ A ln c' w)
  have HN := Lib.hid hn
  have J0 := Lib.hid h0
  clear hW hJ hJx hY hj hi hrow hwf hb hln hlen bJ bI hc hn h0
  refine callsIn_of_wp_marks Try.func68 rfl trivial ?_ rfl
  simp only [Try.ntmps68, List.size_toArray, List.length_cons, List.length_nil, Nat.reduceAdd, Nat.reduceSub, Array.replicate_succ, Array.replicate_zero, List.push_toArray, List.append_toArray, List.nil_append, List.cons_append]
  gi_wp2
  refine wpIn_loop_rounds 2 ?_
  rw [roundsIn_succ]
  gi_wp2_with (refine ⟨trivial, fun _ => Nat.le_trans (by decide) HN.out, ?_⟩; gi_at_call 69; refine (callsIn_wide.2 (hK.out _)).mono ?_; rintro e w' ⟨rfl, rfl⟩)
  have b3 := Boxed.new W 118 (.func (.yield L) #[] #[])
  have bJ := heap_at (W.alloc (.cells #[.func (.yield L) #[] #[]] 118)) (.cells (Jb.cs ⟨jg, js, jd, jf, ju, jl, jy, ji⟩) 46 (0, 0)) (W.heap.size + 1) (by simp)
  have bL := heap_at ((W.alloc (.cells #[.func (.yield L) #[] #[]] 118)).alloc (.cells (Jb.cs ⟨jg, js, jd, jf, ju, jl, jy, ji⟩) 46)) (.cells #[.slice A ln c'] 94 (0, 0)) (W.heap.size + 1 + 1) (by simp)
  have hJ3 : J [] (((W.alloc (.cells #[.func (.yield L) #[] #[]] 118)).alloc (.cells (Jb.cs ⟨jg, js, jd, jf, ju, jl, jy, ji⟩) 46)).alloc (.cells #[.slice A ln c'] 94)) := HJ.out.new _ (HJ.out.new _ (HJ.out.new _ J0.out))
  obtain ⟨W0, hW0⟩ : ∃ W0, ((W.alloc (.cells #[.func (.yield L) #[] #[]] 118)).alloc (.cells (Jb.cs ⟨jg, js, jd, jf, ju, jl, jy, ji⟩) 46)).alloc (.cells #[.slice A ln c'] 94) = W0 := ⟨_, rfl⟩
  have B0 : Below W.heap.size W W0 := by rw [← hW0]; exact bel_alloc (bel_alloc (bel_alloc (Below.refl _ _) _) _) _
  have hsz : W0.heap.size = W.heap.size + 3 := by rw [← hW0]; simp
  have b3' : Boxed W0 W.heap.size 118 (.func (.yield L) #[] #[]) := by rw [← hW0]; exact (b3.alloc _).alloc _
  have bJ' : W0.heap[W.heap.size + 1]? = some (.cells (Jb.cs ⟨jg, js, jd, jf, ju, jl, jy, ji⟩) 46 (0, 0)) := by rw [← hW0]; exact heap_below bJ (bel_alloc (Below.refl _ _) _)
  have bL' : W0.heap[W.heap.size + 1 + 1]? = some (.cells #[.slice A ln c'] 94 (0, 0)) := by rw [← hW0]; exact bL
  rw [hW0] at hJ3 ⊢
  clear hW0 b3 bJ bL y0 y1 y2 y3 y4 y5 y6 y7 i0 cW
  have BW0 : Below w0.heap.size w0 W0 := bThen BW.out B0
  refine wpIn_rangeFunc_Q rfl (Nat.le_trans (by decide) HN.out) (gf := 84) (lb := #[.pointer (some ⟨W.heap.size + 1, 0, none⟩), .pointer (some ⟨W.heap.size + 1 + 1, 0, none⟩)]) rfl trivial (enters_of Try.func84 (by kernel_rfl) rfl)
    (kept1_seq (n - 1) (by have := HN.out; omega) ⟨jg, js, jd, jf, ju, jl, jy, ji⟩ l A ln c' (W.heap.size + 1) (W.heap.size + 1 + 1) w0 W0 bJ' bL' HROW.out HLN.out HLE.out HWF.out BW0) (by have := BW.out.size; omega) (by simp) (Below.refl _ _) (fun _ => rfl)
    (fun pre W' => (J pre W' ∧ Boxed W' W.heap.size 118 (.func (.yield L) #[] #[])) ∧ Below w0.heap.size w0 W')
    (fun c pre W' => c = .ret ∧ Jx pre W')
    (fun s X Y row hs hg hr => ⟨⟨HJ.out s X Y row hs.1.1 hg (fun r e => by obtain ⟨h1, h2⟩ := hr r e; refine ⟨by omega, ?_⟩; rcases h2 with h2 | h2; exact .inl (by omega); exact .inr h2), hs.1.2.kept hg (fun e => by have := (hr _ e.symm).1; omega)⟩, hs.2.grown hg hs.2.size (fun k e => by have := (hr k e).1; have := BW.out.size; omega)⟩)
    (fun c s X Y row hs hg hr => ⟨hs.1, HJx.out s X Y row hs.2 hg (fun r e => by obtain ⟨h1, h2⟩ := hr r e; refine ⟨by omega, ?_⟩; rcases h2 with h2 | h2; exact .inl (by omega); exact .inr h2)⟩)
    ⟨⟨hJ3, b3'⟩, BW0⟩
    (fun x a' W' => ∃ Bx, W0.heap.size + 3 ≤ Bx ∧ W'.heap[Bx]? = some (.cells #[.string x.1.k, .int .i64 x.1.t, .int .i64 x.1.v] 93 (0, 0)) ∧ a' = { tmps := #[.func (.yield L) #[] #[], .pointer (some ⟨bi, 0, none⟩), .pointer (some ⟨bj, 0, none⟩), .pointer (some ⟨W.heap.size, 0, none⟩), undef, .slice A ln c', .pointer (some ⟨Bx, 0, none⟩), .slice (some ⟨b, o, none⟩) 1 c, .int .i64 1, .int .i64 0, .bool true, .pointer (some ⟨b, o, none⟩), .slice A ln c', .agg #[.int .i64 jg, .int .i64 js, .int .i64 jd, .int .i64 jf, .int .i64 ju, .int .i64 jl, .int .i64 jy, .int .i64 ji], .slice A ln c', .func (.func 84) #[] #[.pointer (some ⟨W.heap.size + 1, 0, none⟩), .pointer (some ⟨W.heap.size + 1 + 1, 0, none⟩)], .agg #[.string x.1.k, .int .i64 x.1.t, .int .i64 x.1.v], undef, undef, undef, undef, undef], defers := [] })
    (fun x a' => boxAx_ab _ _ _ _ rfl a')
    ?assign ?body ?done ?stop
  case assign =>
    intro l' pre x W' K hsW hI hK
    unfold evE
    gi_wp2
    have hn0 : w0.heap.size ≤ W'.heap.size := hI.2.size
    exact hK _ _ (KeptQ.bel (bel_alloc (Below.refl _ _) _) hn0) ⟨⟨HJ.out.new _ hI.1.1, hI.1.2.alloc _⟩, bel_alloc hI.2 _⟩ ⟨W'.heap.size, hsW, heap_at _ _ _ rfl, rfl⟩
  case body =>
    rintro l' pre x a' W' hsW ⟨⟨hJ', hb3⟩, hB⟩ ⟨Bx, hB1, hB2, rfl⟩ hlt
    obtain ⟨fn, tmps, assign, body, hy, hR⟩ := yieldAny (n - 1 - 1 - 1) l' (HY.out pre x W' (by omega) hJ' hlt)
    simp only [evE] at hy
    have HR := Lib.hid hR
    have hc := hb3.cell
    have B3 := Lib.hid hb3
    have HB := Lib.hid hB
    have zx := blk_lt hB2
    have x0 := cellsAt hB2 0
    have x1 := cellsAt hB2 1
    have x2 := cellsAt hB2 2
    simp at x0 x1 x2
    clear hR hJ' hb3 hB
    gi_wp2
    refine ⟨fun h => (by cases h), ?_⟩
    refine HR.out.mono ?_
    rintro e W3 (⟨rfl, hJ3, hk3⟩ | ⟨rfl, hJx3, hk3⟩)
    · gi_wp2
      exact ⟨hk3.shift (fun k hk => by cases hk) (by omega) (by omega), ⟨hJ3, hk3.mid _ _ (Nat.le_refl _) B3.out (.inl (by omega))⟩, HB.out.trans hk3.low⟩
    · gi_wp2
      exact ⟨hk3.shift (fun k hk => by cases hk) (by omega) (by omega), rfl, hJx3⟩
  case done =>
    rintro D ys W' hD hS ⟨⟨hJ', hb3⟩, hB⟩ hK
    have HS := Lib.hid hS
    have HJ' := Lib.hid hJ'
    have HD := Lib.hid hK
    clear hJ' hb3 hB hK hS
    gi_wp2
    rw [roundsIn_succ]
    gi_wp2
    refine ⟨by simp, .inl ⟨_, _, rfl, run_takeDeferred HD.out, ?_⟩⟩
    refine ⟨_, results_none rfl _ _ _, ⟨_, rfl⟩, .inl ⟨ys, HS.out, HJ.out.put _ HJ'.out (by omega) HD.out rfl⟩⟩
  case stop =>
    rintro D c pre W' hD hSp ⟨rfl, hx⟩ hK
    have HSP := Lib.hid hSp
    clear hSp
    have HD := Lib.hid hK
    have HX := Lib.hid hx
    clear hx hK
    gi_wp2
    refine ⟨by simp, .inl ⟨_, _, rfl, run_takeDeferred HD.out, ?_⟩⟩
    refine ⟨_, results_none rfl _ _ _, ⟨_, rfl⟩, .inr ⟨pre, HSP.out, HJx.out.put _ HX.out (by omega) HD.out rfl⟩⟩
end Go.Proofs.Ytlboehpgpbchhaa
