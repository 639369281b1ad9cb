/-
  WALKS of the top laws: an event goes round.
-/
import Derived.Test.YtlboehpgpbchhaaTopW3
import Derived.Test.YtlboehpgpbchhaaRowsPush
set_option linter.unusedVariables false
set_option linter.unusedSimpArgs false
namespace Go.Proofs.Ytlboehpgpbchhaa
open Go.RowKit

def i64B (v : Int) : Prop := -9223372036854775808 ≤ v ∧ v ≤ 9223372036854775807
def HfTo (w : World) (e : Ending) (w' : World) : Prop := (∃ v', e = .returned (.int .i64 v') ∧ i64B v') ∧ w' = w
theorem half_any (v : Int) (w : World) (h : i64B v) : Calls Try.prog 112 #[.int .i64 v] w (HfTo w) := by
  unfold i64B at h
  have hd : i64B (v.tdiv 2) := by
    unfold i64B
    by_cases h0 : 0 ≤ v
    · rw [Int.tdiv_eq_ediv_of_nonneg h0]; omega
    · have h1 : (-v).tdiv 2 = -(v.tdiv 2) := Int.neg_tdiv v 2
      have h2 : (-v).tdiv 2 = (-v) / 2 := Int.tdiv_eq_ediv_of_nonneg (by omega)
      omega
  have HD := Lib.hid hd
  clear hd
  go_enter Try.func112, Try.ntmps112
  go_wp2
  go_ret
  exact ⟨⟨_, rfl, HD.out⟩, rfl⟩
theorem ruleOf_any (l f : Int) (w : World) : Calls Try.prog 110 #[.int .i64 l, .int .i64 f] w fun e w' => e = .returned (.agg #[.int .i64 (max l 0), .int .i64 (min (max f 0) 40)]) ∧ Below w.heap.size w w' := by
  go_enter Try.func110, Try.ntmps110
  go_wp2
  refine bodyPost_ret (v := .agg #[.int .i64 (max l 0), .int .i64 (min (max f 0) 40)]) (by simp [results, Try.results110, go_sem]) rfl ?_
  exact ⟨rfl, bel_alloc (Below.refl _ _) _⟩
def LvTo (n f : Int) (w : World) (e : Ending) (w' : World) : Prop := (∃ b, e = .returned (.bool b) ∧ (b = false → n < f)) ∧ Below w.heap.size w w'
theorem leaves_any (l f v n : Int) (w : World) : Calls Try.prog 111 #[.agg #[.int .i64 l, .int .i64 f], .int .i64 v, .int .i64 n] w (LvTo n f w) := by
  go_enter Try.func111, Try.ntmps111
  go_wp2
  all_goals
    go_ret
    refine ⟨⟨_, rfl, ?_⟩, bel_alloc (Below.refl _ _) _⟩
    intro h
    simp at h
    try omega
theorem heap_grown' {W W' : World} {o : Option Nat} {b : Nat} {ob : Obj} (h : W.heap[b]? = some ob) (hg : W.grownBy W' o) (hne : o ≠ some b) : W'.heap[b]? = some ob := (hg.block b (blk_lt h) (fun e => hne e.symm)).trans h
/-- What leaves the loop: the event, but for its value. -/
def LpTo (e : Ev) (w : World) (r : Ending) (w' : World) : Prop := (∃ v' n, r = .returned (.tuple #[.agg #[.string e.k, .int .i64 e.t, .int .i64 v'], .int .i64 n]) ∧ i64B v') ∧ Below w.heap.size w w'
def LrRel (e : Ev) (f : Int) (w : World) (i : Value) (wr : World) : Prop := ∃ (n : Nat) (v' : Int), (n : Int) ≤ f ∧ i = .int .i64 n ∧ i64B v' ∧ wr.heap[w.heap.size]? = some (.cells #[.string e.k, .int .i64 e.t, .int .i64 v'] 93 (0, 0)) ∧
  wr.heap[w.heap.size + 1]? = some (.cells #[.string ⟨#[]⟩, .int .i64 0, .int .i64 0] 93 (0, 0)) ∧ Below w.heap.size w wr
set_option maxRecDepth 100000 in
theorem loop_any (e : Ev) (l f : Int) (w : World) (he : e.Wf) : Calls Try.prog 99 #[e.val, .int .i64 l, .int .i64 f] w (LpTo e w) := by
  have HR := Lib.hid (fun w => ruleOf_any l f w)
  have HE := Lib.hid he
  obtain ⟨l2, hl2⟩ : ∃ x, max l 0 = x := ⟨_, rfl⟩
  obtain ⟨f2, hf2⟩ : ∃ x, min (max f 0) 40 = x := ⟨_, rfl⟩
  rw [hl2, hf2] at HR
  have f0 : 0 ≤ f2 := by omega
  have f1 : f2 ≤ 40 := by omega
  have HL := Lib.hid (fun v n w => leaves_any l2 f2 v n w)
  have HH := Lib.hid (fun v w h => half_any v w h)
  obtain ⟨k, t, v⟩ := e
  unfold Ev.val
  simp only
  clear he hl2 hf2
  go_enter Try.func99, Try.ntmps99
  go_wp2_with fail
  refine (HR.out _).mono ?_
  rintro e w2 ⟨rfl, hb2⟩
  have Z1 := Lib.hid (heap_below (heap_below (heap_at w (.cells #[.string k, .int .i64 t, .int .i64 v] 93 (0, 0)) _ rfl) (bel_alloc (Below.refl _ _) (.cells #[.string ⟨#[]⟩, .int .i64 0, .int .i64 0] 93 (0, 0)))) hb2)
  have Z2 := Lib.hid (heap_below (heap_at (w.alloc (.cells #[.string k, .int .i64 t, .int .i64 v] 93 (0, 0))) (.cells #[.string ⟨#[]⟩, .int .i64 0, .int .i64 0] 93 (0, 0)) (w.heap.size + 1) (by simp)) hb2)
  have Z3 := Lib.hid (bThen (bel_alloc (bel_alloc (Below.refl w.heap.size w) _) _) hb2)
  clear hb2
  go_wp2_with fail
  go_loopw [9] (fun i wr => LrRel ⟨k, t, v⟩ f2 w i wr) (fun i _ => 41 - (intOf i).toNat)
  case atStart => exact ⟨0, v, f0, rfl, HE.out.2.2, Z1.out, Z2.out, Z3.out⟩
  case round =>
    obtain ⟨n, v', hn, rfl, hv, h1, h2, hb⟩ := hrel
    have Y1 := Lib.hid h1
    have Y2 := Lib.hid h2
    have YB := Lib.hid hb
    have YV := Lib.hid hv
    clear h1 h2 hb hv Z1 Z2 Z3 HR
    have z1 := blk_lt Y1.out
    have x2 := cellsAt Y1.out 2
    simp at x2
    go_wp2_with fail
    refine (HL.out _ _ _).mono ?_
    rintro e w3 ⟨⟨b, rfl, hbf⟩, hb3⟩
    have X1 := Lib.hid (heap_below Y1.out hb3)
    have X2 := Lib.hid (heap_below Y2.out hb3)
    have XB := Lib.hid (bThen YB.out hb3)
    clear hb3 z1 x2
    have z1 := blk_lt X1.out
    have x0 := cellsAt X1.out 0
    have x1 := cellsAt X1.out 1
    have x2 := cellsAt X1.out 2
    have fx := frozAt X1.out
    have z2 := blk_lt X2.out
    have y0 := cellsAt X2.out 0
    have y1 := cellsAt X2.out 1
    have y2 := cellsAt X2.out 2
    have fy := frozAt X2.out
    simp at x0 x1 x2 y0 y1 y2
    cases b with
    | false =>
      have hnf : (n : Int) < f2 := hbf rfl
      clear hbf
      go_wp2_with fail
      refine (HH.out _ _ YV.out).mono ?_
      rintro e w4 ⟨⟨v4, rfl, hv4⟩, rfl⟩
      have V4 := Lib.hid hv4
      clear hv4
      go_wp2_with fail
      go_roundw
      case rel => exact ⟨n + 1, v4, by omega, by go_num, V4.out, by have := blk_set X1.out 2 (.int .i64 v4); simpa using this, (heap_grown' X2.out (grown_set _ _ _) (by simp)), XB.out.setCell (p := ⟨w.heap.size, 2, none⟩) (Nat.le_refl _) _⟩
      case measure => simp [intOf]; omega
    | true =>
      clear hbf
      go_wp2_with fail
      obtain ⟨Wf, hWf⟩ : ∃ X, X = ((w3.setCell ⟨w.heap.size + 1, 0, none⟩ (.string k)).setCell ⟨w.heap.size + 1, 1, none⟩ (.int .i64 t)).setCell ⟨w.heap.size + 1, 2, none⟩ (.int .i64 v') := ⟨_, rfl⟩
      rw [← hWf]
      have hz : Wf.heap[w.heap.size + 1]? = some (.cells #[.string k, .int .i64 t, .int .i64 v'] 93 (0, 0)) := by rw [hWf]; have := blk_set (blk_set (blk_set X2.out 0 (.string k)) 1 (.int .i64 t)) 2 (.int .i64 v'); simpa using this
      have hB : Below w.heap.size w Wf := by rw [hWf]; exact (((XB.out.setCell (p := ⟨w.heap.size + 1, 0, none⟩) (Nat.le_succ _) _).setCell (p := ⟨w.heap.size + 1, 1, none⟩) (Nat.le_succ _) _).setCell (p := ⟨w.heap.size + 1, 2, none⟩) (Nat.le_succ _) _)
      clear hWf y0 y1 y2
      have y0 := cellsAt hz 0
      have y1 := cellsAt hz 1
      have y2 := cellsAt hz 2
      simp at y0 y1 y2
      refine bodyPost_ret (v := .tuple #[.agg #[.string k, .int .i64 t, .int .i64 v'], .int .i64 n]) (by simp [results, Try.results99, go_sem, y0, y1, y2]) rfl ?_
      exact ⟨⟨_, _, rfl, YV.out⟩, hB⟩
end Go.Proofs.Ytlboehpgpbchhaa
