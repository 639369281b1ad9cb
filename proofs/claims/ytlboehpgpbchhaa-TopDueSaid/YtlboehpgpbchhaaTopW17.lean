/-
  WALKS of the top laws: a source sees an event.
-/
import Derived.Test.YtlboehpgpbchhaaTopW15
import Derived.Deep.RegionLaw
import Derived.Deep.CutRange
set_option linter.unusedVariables false
set_option linter.unusedSimpArgs false
namespace Go.Proofs.Ytlboehpgpbchhaa
open Go.RowKit

/-- The source's object. -/
def sCs (j : Jb) (m : Int) : Array Value := #[.int .i64 j.g, .int .i64 j.s, .int .i64 j.d, .int .i64 j.f, .int .i64 j.u, .int .i64 j.l, .int .i64 j.y, .int .i64 j.i, .int .i64 m]
/-- The time that a source is at behind an event. -/
def mNext (j : Jb) (m t : Int) : Int := max m (tAt (tAt t - tAt j.y))
/-- What (*source).see tells. -/
def SeTo (q : Nat) (j : Jb) (m : Int) (e : Ev) (w : World) (r : Ending) (w' : World) : Prop :=
  (∃ v', r = .returned (.tuple #[.agg #[.string e.k, .int .i64 e.t, .int .i64 v'], .bool (!decide (e.t < m))]) ∧ i64B v') ∧
  w'.heap[q]? = some (.cells (sCs j (mNext j m e.t)) 137 (0, 0)) ∧ w.grownBy w' (some q)
theorem gby_bel {w wr w2 : World} {r : Option Nat} (h : w.grownBy wr r) (hb : Below wr.heap.size wr w2) : w.grownBy w2 r :=
  ⟨hb.os.trans h.os, hb.tape.trans h.tape, hb.output.trans h.output, Nat.le_trans h.size hb.size, fun k hk hne => (hb.block k (Nat.lt_of_lt_of_le hk h.size)).trans (h.block k hk hne)⟩
theorem gby_alloc {w wr : World} {r : Option Nat} (h : w.grownBy wr r) (o : Obj) : w.grownBy (wr.alloc o) r := gby_bel h (bel_alloc (Below.refl _ _) o)
theorem gby_of {w w2 : World} (r : Option Nat) (hb : Below w.heap.size w w2) : w.grownBy w2 r := ⟨hb.os, hb.tape, hb.output, hb.size, fun k hk _ => hb.block k hk⟩
theorem set3 {w1 : World} {g : Nat} {x0 x1 x2 : Value} {T : TypeId} (h : w1.heap[g]? = some (.cells #[x0, x1, x2] T (0, 0))) (a b c : Value) :
    (((w1.setCell ⟨g, 0, none⟩ a).setCell ⟨g, 1, none⟩ b).setCell ⟨g, 2, none⟩ c).heap[g]? = some (.cells #[a, b, c] T (0, 0)) := by
  have := blk_set (blk_set (blk_set h 0 a) 1 b) 2 c
  simpa using this
theorem bel3 {w w1 : World} {n : Nat} (B : Below n w w1) {g : Nat} (hg : n ≤ g) (a b c : Value) :
    Below n w (((w1.setCell ⟨g, 0, none⟩ a).setCell ⟨g, 1, none⟩ b).setCell ⟨g, 2, none⟩ c) :=
  ((B.setCell (p := ⟨g, 0, none⟩) hg a).setCell (p := ⟨g, 1, none⟩) hg b).setCell (p := ⟨g, 2, none⟩) hg c
set_option maxRecDepth 100000 in
set_option maxHeartbeats 4000000 in
theorem see_any (q : Nat) (j : Jb) (m : Int) (e : Ev) (w : World) (hq : w.heap[q]? = some (.cells (sCs j m) 137 (0, 0))) (he : e.Wf) :
    Calls Try.prog 85 #[.pointer (some ⟨q, 0, none⟩), e.val] w (SeTo q j m e w) := by
  have HQ := Lib.hid hq
  have HE := Lib.hid he
  have HL := Lib.hid (fun l f w => loop_any e l f w he)
  have HS := Lib.hid (fun w => sub_any e.t j.y w)
  have HN := Lib.hid (show mNext j m e.t = max m (tAt (tAt e.t - tAt j.y)) from rfl)
  obtain ⟨s2, hs2⟩ : ∃ x, tAt (tAt e.t - tAt j.y) = x := ⟨_, rfl⟩
  rw [hs2] at HS HN
  obtain ⟨jg, js, jd, jf, ju, jl, jy, ji⟩ := j
  obtain ⟨k, t, v⟩ := e
  unfold Ev.val at HL ⊢
  simp only at HL HS HN ⊢
  clear hq he hs2
  have zq0 := blk_lt HQ.out
  go_enter Try.func85, Try.ntmps85
  go_upto_region 1 with fail
  obtain ⟨W2, hW2⟩ : ∃ X, X = (w.alloc (.cells #[.string k, .int .i64 t, .int .i64 v] 93)).alloc (.cells #[.string ⟨#[]⟩, .int .i64 0, .int .i64 0] 93) := ⟨_, rfl⟩
  rw [← hW2]
  have B2 := Lib.hid (show Below w.heap.size w W2 by rw [hW2]; exact bel_alloc (bel_alloc (Below.refl _ _) _) _)
  have E1 := Lib.hid (show W2.heap[w.heap.size]? = some (.cells #[.string k, .int .i64 t, .int .i64 v] 93 (0, 0)) by rw [hW2]; exact heap_below (heap_at _ _ _ rfl) (bel_alloc (Below.refl _ _) _))
  have E2 := Lib.hid (show W2.heap[w.heap.size + 1]? = some (.cells #[.string ⟨#[]⟩, .int .i64 0, .int .i64 0] 93 (0, 0)) by rw [hW2]; exact heap_at _ _ _ (by simp))
  have Q2 := Lib.hid (heap_below HQ.out B2.out)
  clear hW2
  have zq := blk_lt Q2.out
  have q4 := cellsAt Q2.out 4
  have q5 := cellsAt Q2.out 5
  have q6 := cellsAt Q2.out 6
  have q8 := cellsAt Q2.out 8
  have fq := frozAt Q2.out
  have ze := blk_lt E1.out
  have e0 := cellsAt E1.out 0
  have e1 := cellsAt E1.out 1
  have e2 := cellsAt E1.out 2
  simp [sCs] at q4 q5 q6 q8 e0 e1 e2
  go_region
  have B3 := Lib.hid (show Below w.heap.size w W2.drew from Below.drew B2.out)
  have E3 := Lib.hid (show W2.drew.heap[w.heap.size]? = some (.cells #[.string k, .int .i64 t, .int .i64 v] 93 (0, 0)) from E1.out)
  have F3 := Lib.hid (show W2.drew.heap[w.heap.size + 1]? = some (.cells #[.string ⟨#[]⟩, .int .i64 0, .int .i64 0] 93 (0, 0)) from E2.out)
  have Q3 := Lib.hid (show W2.drew.heap[q]? = some (.cells (sCs ⟨jg, js, jd, jf, ju, jl, jy, ji⟩ m) 137 (0, 0)) from Q2.out)
  generalize W2.drew = W3 at B3 E3 F3 Q3 ⊢
  clear zq q4 q5 q6 q8 fq ze e0 e1 e2 B2 E1 E2 Q2
  have zq := blk_lt Q3.out
  have q4 := cellsAt Q3.out 4
  have q5 := cellsAt Q3.out 5
  have q6 := cellsAt Q3.out 6
  have q8 := cellsAt Q3.out 8
  have fq := frozAt Q3.out
  have ze := blk_lt E3.out
  have e0 := cellsAt E3.out 0
  have e1 := cellsAt E3.out 1
  have e2 := cellsAt E3.out 2
  simp [sCs] at q4 q5 q6 q8 e0 e1 e2
  go_upto_region 2 with fail
  go_still_tail 16, (by kernel_rfl)
  still_call (HS.out _)
  repeat still_step
  try refine wpStill_nil ?_
  change wpList _ _ _ _ _ W3.drew
  have B4 := Lib.hid (show Below w.heap.size w W3.drew from Below.drew B3.out)
  have E4 := Lib.hid (show W3.drew.heap[w.heap.size]? = some (.cells #[.string k, .int .i64 t, .int .i64 v] 93 (0, 0)) from E3.out)
  have F4 := Lib.hid (show W3.drew.heap[w.heap.size + 1]? = some (.cells #[.string ⟨#[]⟩, .int .i64 0, .int .i64 0] 93 (0, 0)) from F3.out)
  have Q4 := Lib.hid (show W3.drew.heap[q]? = some (.cells (sCs ⟨jg, js, jd, jf, ju, jl, jy, ji⟩ m) 137 (0, 0)) from Q3.out)
  generalize W3.drew = W4 at B4 E4 F4 Q4 ⊢
  clear zq q4 q5 q6 q8 fq ze e0 e1 e2 B3 E3 F3 Q3
  have zq := blk_lt Q4.out
  have q4 := cellsAt Q4.out 4
  have q5 := cellsAt Q4.out 5
  have q6 := cellsAt Q4.out 6
  have q8 := cellsAt Q4.out 8
  have fq := frozAt Q4.out
  have ze := blk_lt E4.out
  have e0 := cellsAt E4.out 0
  have e1 := cellsAt E4.out 1
  have e2 := cellsAt E4.out 2
  simp [sCs] at q4 q5 q6 q8 e0 e1 e2
  go_upto_region 3 with fail
  have hqe : q ≠ w.heap.size := by omega
  have hqf : q ≠ w.heap.size + 1 := by omega
  obtain ⟨W5, hW5⟩ : ∃ X, X = W4.setCell ⟨q, 8, none⟩ (.int .i64 (max m s2)) := ⟨_, rfl⟩
  rw [← hW5]
  have G5 := Lib.hid (show w.grownBy W5 (some q) by rw [hW5]; exact gby_set (gby_of _ B4.out) 8 _)
  have E5 := Lib.hid (show W5.heap[w.heap.size]? = some (.cells #[.string k, .int .i64 t, .int .i64 v] 93 (0, 0)) by rw [hW5]; exact heap_grown' E4.out (grown_set _ _ _) (by simpa using hqe))
  have F5 := Lib.hid (show W5.heap[w.heap.size + 1]? = some (.cells #[.string ⟨#[]⟩, .int .i64 0, .int .i64 0] 93 (0, 0)) by rw [hW5]; exact heap_grown' F4.out (grown_set _ _ _) (by simpa using hqf))
  have Q5 := Lib.hid (show W5.heap[q]? = some (.cells (sCs ⟨jg, js, jd, jf, ju, jl, jy, ji⟩ (max m s2)) 137 (0, 0)) by rw [hW5]; exact blk_set Q4.out 8 _)
  clear hW5 hqe hqf zq q4 q5 q6 q8 fq ze e0 e1 e2 B4 E4 F4 Q4
  have zq := blk_lt Q5.out
  have q4 := cellsAt Q5.out 4
  have q5 := cellsAt Q5.out 5
  have q6 := cellsAt Q5.out 6
  have q8 := cellsAt Q5.out 8
  have fq := frozAt Q5.out
  have ze := blk_lt E5.out
  have e0 := cellsAt E5.out 0
  have e1 := cellsAt E5.out 1
  have e2 := cellsAt E5.out 2
  simp [sCs] at q4 q5 q6 q8 e0 e1 e2
  go_cut [7] (fun p W => ∃ (g : Nat) (v' : Int), p = .pointer (some ⟨g, 0, none⟩) ∧ i64B v' ∧ W.heap[g]? = some (.cells #[.string k, .int .i64 t, .int .i64 v'] 93 (0, 0)) ∧ Below W5.heap.size W5 W)
  case first =>
    go_region_law (first | (go_simp; go_at_call 99; refine (HL.out _ _ _).mono ?_; rintro e wc ⟨⟨v', n', rfl, hv'⟩, hbc⟩; (try (have tb : wc.heap[W5.heap.size]? = some (.cells #[.string ⟨#[]⟩, .int .i64 0, .int .i64 0] 93 (0, 0)) := (hbc.block W5.heap.size (by simp)).trans (heap_alloc_new _ _); have tc0 := cellsAt tb 0; have tc1 := cellsAt tb 1; have tc2 := cellsAt tb 2; have tcz := frozAt tb; simp at tc0 tc1 tc2)); have tq := hbc.size))
    all_goals
      go_wp2_with fail
      go_meet
      simp at tq
      first
        | exact ⟨_, _, rfl, hv', set3 tb _ _ _, bel3 ((Below.drew (bel_alloc (Below.refl _ _) _)).trans (hbc.mono (by simp))) (Nat.le_refl _) _ _ _⟩
        | exact ⟨_, _, rfl, hv', heap_at _ _ _ rfl, (((Below.drew (Below.refl _ _)).trans (hbc.mono (by simp))).alloc tq _)⟩
  case rest =>
    obtain ⟨g, v', rfl, hv', hg, hb⟩ := hcut
    have HV' := Lib.hid hv'
    have G7 := Lib.hid (gby_bel G5.out hb)
    have E7 := Lib.hid hg
    have F7 := Lib.hid (heap_below F5.out hb)
    have Q7 := Lib.hid (heap_below Q5.out hb)
    clear hv' hg hb G5 E5 F5 Q5 zq q4 q5 q6 q8 fq ze e0 e1 e2
    have zg := blk_lt E7.out
    have x0 := cellsAt E7.out 0
    have x1 := cellsAt E7.out 1
    have x2 := cellsAt E7.out 2
    have zf := blk_lt F7.out
    have y0 := cellsAt F7.out 0
    have y1 := cellsAt F7.out 1
    have y2 := cellsAt F7.out 2
    have fy := frozAt F7.out
    simp at x0 x1 x2 y0 y1 y2
    have hqf : q ≠ w.heap.size + 1 := by omega
    have HQF := Lib.hid hqf
    clear hqf
    go_wp2_with fail
    obtain ⟨Wf, hWf⟩ : ∃ X, X = ((wc.setCell ⟨w.heap.size + 1, 0, none⟩ (.string k)).setCell ⟨w.heap.size + 1, 1, none⟩ (.int .i64 t)).setCell ⟨w.heap.size + 1, 2, none⟩ (.int .i64 v') := ⟨_, rfl⟩
    rw [← hWf]
    have hz : Wf.heap[w.heap.size + 1]? = some (.cells #[.string k, .int .i64 t, .int .i64 v'] 93 (0, 0)) := by rw [hWf]; exact set3 F7.out _ _ _
    have hQ : Wf.heap[q]? = some (.cells (sCs ⟨jg, js, jd, jf, ju, jl, jy, ji⟩ (max m s2)) 137 (0, 0)) := by
      rw [hWf]
      have hne : ∀ (i : Nat), q ≠ (⟨w.heap.size + 1, i, none⟩ : Addr).block := fun i => HQF.out
      rw [Below.heap_setCell _ _ _ _ (hne 2), Below.heap_setCell _ _ _ _ (hne 1), Below.heap_setCell _ _ _ _ (hne 0)]
      exact Q7.out
    have hG : w.grownBy Wf (some q) := by
      have hB : ∀ (X : World) (i : Nat) (u : Value), w.grownBy X (some q) → w.grownBy (X.setCell ⟨w.heap.size + 1, i, none⟩ u) (some q) := fun X i u h =>
        ⟨h.os, h.tape, h.output, by simpa [World.setCell] using h.size, fun k hk hne => by rw [Below.heap_setCell _ _ _ k (by simp only; omega)]; exact h.block k hk hne⟩
      rw [hWf]
      exact hB _ _ _ (hB _ _ _ (hB _ _ _ G7.out))
    clear hWf y0 y1 y2 fy x0 x1 x2
    have y0 := cellsAt hz 0
    have y1 := cellsAt hz 1
    have y2 := cellsAt hz 2
    simp at y0 y1 y2
    refine bodyPost_ret (v := .tuple #[.agg #[.string k, .int .i64 t, .int .i64 v'], .bool (!decide (t < m))]) (by simp [results, Try.results85, go_sem, y0, y1, y2]) rfl ?_
    exact ⟨⟨_, rfl, HV'.out⟩, by rw [HN.out]; exact hQ, hG⟩
end Go.Proofs.Ytlboehpgpbchhaa
