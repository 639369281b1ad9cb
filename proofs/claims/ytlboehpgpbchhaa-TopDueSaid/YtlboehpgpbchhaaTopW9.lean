/-
  WALKS of the top laws: two folds joined.
-/
import Derived.Test.YtlboehpgpbchhaaTopW8
import Derived.StillTailTactics
set_option linter.unusedVariables false
set_option linter.unusedSimpArgs false
namespace Go.Proofs.Ytlboehpgpbchhaa
open Go.RowKit

theorem fplus_any (a b : Int) (w : World) : Calls Try.prog 126 #[.int .i64 a, .int .i64 b] w fun e w' => e = .returned (.int .i64 (wrap64 (a + b))) ∧ w' = w := by
  go_enter Try.func126, Try.ntmps126
  go_wp2
  go_ret
  exact ⟨rfl, rfl⟩
theorem fleast_any (a b : Int) (w : World) : Calls Try.prog 128 #[.int .i64 a, .int .i64 b] w fun e w' => e = .returned (.int .i64 (min a b)) ∧ w' = w := by
  go_enter Try.func128, Try.ntmps128
  go_wp2
  go_ret
  exact ⟨rfl, rfl⟩
theorem fmost_any (a b : Int) (w : World) : Calls Try.prog 129 #[.int .i64 a, .int .i64 b] w fun e w' => e = .returned (.int .i64 (max a b)) ∧ w' = w := by
  go_enter Try.func129, Try.ntmps129
  go_wp2
  go_ret
  exact ⟨rfl, rfl⟩
theorem fnone_any (a b : Int) (w : World) : Calls Try.prog 127 #[.int .i64 a, .int .i64 b] w fun e w' => e = .returned (.int .i64 (0)) ∧ w' = w := by
  go_enter Try.func127, Try.ntmps127
  go_wp2
  go_ret
  exact ⟨rfl, rfl⟩
/-- What fold.Join tells. -/
def JnTo (n : Int) (w : World) (e : Ending) (w' : World) : Prop := (∃ a b, e = .returned (.agg #[.int .i64 n, .int .i64 a, .int .i64 b]) ∧ i64B a ∧ i64B b) ∧ Below w.heap.size w w'
theorem i64_wrap (x : Int) : i64B (wrap64 x) := by unfold i64B wrap64; omega
theorem i64_min {a b : Int} (ha : i64B a) (hb : i64B b) : i64B (min a b) := by unfold i64B at *; omega
theorem i64_max {a b : Int} (ha : i64B a) (hb : i64B b) : i64B (max a b) := by unfold i64B at *; omega
theorem fields1_any (w : World) : Calls Try.prog 124 #[.int .i64 1] w fun e w' => e = .returned (.tuple #[.func (.func 127) #[] #[], .func (.func 127) #[] #[]]) ∧ w' = w := by
  go_enter Try.func124, Try.ntmps124
  go_wp2
  go_ret2
  exact ⟨rfl, rfl⟩
set_option maxRecDepth 100000 in
theorem join1_any (n1 a1 b1 n2 a2 b2 : Int) (w : World) (h1 : 1 ≤ n1) (h2 : 1 ≤ n2) (h3 : n1 + n2 ≤ 4611686018427387904) (ha : i64B a1 ∧ i64B a2 ∧ i64B b1 ∧ i64B b2) : Calls Try.prog 118 #[.int .i64 1, .agg #[.int .i64 n1, .int .i64 a1, .int .i64 b1], .agg #[.int .i64 n2, .int .i64 a2, .int .i64 b2]] w (JnTo (n1 + n2) w) := by
  have HA := Lib.hid ha
  clear ha
  have d1 : (n1 == 0) = false := by simp; omega
  have d2 : (n2 == 0) = false := by simp; omega
  have d3 : ¬ n1 = 0 := by omega
  have d4 : ¬ n2 = 0 := by omega
  have hw : IntKind.i64.wrap (n1 + n2) = n1 + n2 := by rw [IntKind.wrap_i64]; omega
  have hw2 : wrap64 (n1 + n2) = n1 + n2 := by unfold wrap64; omega
  go_enter Try.func118, Try.ntmps118
  go_upto_region 8 with (first | (go_at_call 124; refine (fields1_any _).mono ?_; rintro e w' ⟨rfl, rfl⟩) | go_in)
  obtain ⟨W2, hW2⟩ : ∃ X, X = (((w.alloc (.cells #[.int .i64 n1, .int .i64 a1, .int .i64 b1] 57)).alloc (.cells #[.int .i64 n2, .int .i64 a2, .int .i64 b2] 57)).alloc (.cells #[.int .i64 0, .int .i64 0, .int .i64 0] 57)) := ⟨_, rfl⟩
  rw [← hW2]
  have g1 : W2.heap[w.heap.size]? = some (.cells #[.int .i64 n1, .int .i64 a1, .int .i64 b1] 57 (0, 0)) := by rw [hW2]; exact heap_below (heap_below (heap_at w _ _ rfl) (bel_alloc (Below.refl _ _) _)) (bel_alloc (Below.refl _ _) _)
  have g2 : W2.heap[w.heap.size + 1]? = some (.cells #[.int .i64 n2, .int .i64 a2, .int .i64 b2] 57 (0, 0)) := by rw [hW2]; exact heap_below (heap_at (w.alloc _) _ _ (by simp)) (bel_alloc (Below.refl _ _) _)
  have g3 : W2.heap[w.heap.size + 1 + 1]? = some (.cells #[.int .i64 0, .int .i64 0, .int .i64 0] 57 (0, 0)) := by rw [hW2]; exact heap_at _ _ _ (by simp)
  have HB := Lib.hid (show Below w.heap.size w W2 by rw [hW2]; exact bel_alloc (bel_alloc (bel_alloc (Below.refl _ _) _) _) _)
  clear hW2
  have z1 := blk_lt g1
  have z2 := blk_lt g2
  have x0 := cellsAt g1 0
  have x1 := cellsAt g1 1
  have x2 := cellsAt g1 2
  have y0 := cellsAt g2 0
  have y1 := cellsAt g2 1
  have y2 := cellsAt g2 2
  simp at x0 x1 x2 y0 y1 y2
  go_still_tail 17, (by kernel_rfl)
  still_call (fnone_any a1 a2 _)
  repeat still_step
  still_call (fnone_any b1 b2 _)
  repeat still_step
  try refine wpStill_nil ?_
  change wpList _ _ _ _ _ W2.drew
  have HD := Lib.hid (show Below w.heap.size w W2.drew from Below.drew HB.out)
  have G3 := Lib.hid (show W2.drew.heap[w.heap.size + 1 + 1]? = some (.cells #[.int .i64 0, .int .i64 0, .int .i64 0] 57 (0, 0)) from g3)
  generalize W2.drew = W3 at HD G3
  clear HB z1 z2 x0 x1 x2 y0 y1 y2 g1 g2 g3
  have z3 := blk_lt G3.out
  have u0 := cellsAt G3.out 0
  have u1 := cellsAt G3.out 1
  have u2 := cellsAt G3.out 2
  have fu := frozAt G3.out
  simp at u0 u1 u2
  go_wp2_with fail
  obtain ⟨Wf, hWf⟩ : ∃ X, X = (((W3.setCell ⟨w.heap.size + 1 + 1, 0, none⟩ (.int .i64 (n1 + n2))).setCell ⟨w.heap.size + 1 + 1, 1, none⟩ (.int .i64 (0))).setCell ⟨w.heap.size + 1 + 1, 2, none⟩ (.int .i64 (0))) := ⟨_, rfl⟩
  rw [← hWf]
  have hz : Wf.heap[w.heap.size + 1 + 1]? = some (.cells #[.int .i64 (n1 + n2), .int .i64 (0), .int .i64 (0)] 57 (0, 0)) := by rw [hWf]; have := blk_set (blk_set (blk_set G3.out 0 (.int .i64 (n1 + n2))) 1 (.int .i64 (0))) 2 (.int .i64 (0)); simpa using this
  have hB : Below w.heap.size w Wf := by rw [hWf]; exact ((HD.out.setCell (p := ⟨w.heap.size + 1 + 1, 0, none⟩) (by simp; omega) _).setCell (p := ⟨w.heap.size + 1 + 1, 1, none⟩) (by simp; omega) _).setCell (p := ⟨w.heap.size + 1 + 1, 2, none⟩) (by simp; omega) _
  clear hWf u0 u1 u2
  have y0 := cellsAt hz 0
  have y1 := cellsAt hz 1
  have y2 := cellsAt hz 2
  simp at y0 y1 y2
  refine bodyPost_ret (v := .agg #[.int .i64 (n1 + n2), .int .i64 (0), .int .i64 (0)]) (by simp [results, Try.results118, go_sem, y0, y1, y2]) rfl ?_
  exact ⟨⟨_, _, rfl, i64_0, i64_0⟩, hB⟩
theorem fields2_any (w : World) : Calls Try.prog 124 #[.int .i64 2] w fun e w' => e = .returned (.tuple #[.func (.func 126) #[] #[], .func (.func 127) #[] #[]]) ∧ w' = w := by
  go_enter Try.func124, Try.ntmps124
  go_wp2
  go_ret2
  exact ⟨rfl, rfl⟩
set_option maxRecDepth 100000 in
theorem join2_any (n1 a1 b1 n2 a2 b2 : Int) (w : World) (h1 : 1 ≤ n1) (h2 : 1 ≤ n2) (h3 : n1 + n2 ≤ 4611686018427387904) (ha : i64B a1 ∧ i64B a2 ∧ i64B b1 ∧ i64B b2) : Calls Try.prog 118 #[.int .i64 2, .agg #[.int .i64 n1, .int .i64 a1, .int .i64 b1], .agg #[.int .i64 n2, .int .i64 a2, .int .i64 b2]] w (JnTo (n1 + n2) w) := by
  have HA := Lib.hid ha
  clear ha
  have d1 : (n1 == 0) = false := by simp; omega
  have d2 : (n2 == 0) = false := by simp; omega
  have d3 : ¬ n1 = 0 := by omega
  have d4 : ¬ n2 = 0 := by omega
  have hw : IntKind.i64.wrap (n1 + n2) = n1 + n2 := by rw [IntKind.wrap_i64]; omega
  have hw2 : wrap64 (n1 + n2) = n1 + n2 := by unfold wrap64; omega
  go_enter Try.func118, Try.ntmps118
  go_upto_region 8 with (first | (go_at_call 124; refine (fields2_any _).mono ?_; rintro e w' ⟨rfl, rfl⟩) | go_in)
  obtain ⟨W2, hW2⟩ : ∃ X, X = (((w.alloc (.cells #[.int .i64 n1, .int .i64 a1, .int .i64 b1] 57)).alloc (.cells #[.int .i64 n2, .int .i64 a2, .int .i64 b2] 57)).alloc (.cells #[.int .i64 0, .int .i64 0, .int .i64 0] 57)) := ⟨_, rfl⟩
  rw [← hW2]
  have g1 : W2.heap[w.heap.size]? = some (.cells #[.int .i64 n1, .int .i64 a1, .int .i64 b1] 57 (0, 0)) := by rw [hW2]; exact heap_below (heap_below (heap_at w _ _ rfl) (bel_alloc (Below.refl _ _) _)) (bel_alloc (Below.refl _ _) _)
  have g2 : W2.heap[w.heap.size + 1]? = some (.cells #[.int .i64 n2, .int .i64 a2, .int .i64 b2] 57 (0, 0)) := by rw [hW2]; exact heap_below (heap_at (w.alloc _) _ _ (by simp)) (bel_alloc (Below.refl _ _) _)
  have g3 : W2.heap[w.heap.size + 1 + 1]? = some (.cells #[.int .i64 0, .int .i64 0, .int .i64 0] 57 (0, 0)) := by rw [hW2]; exact heap_at _ _ _ (by simp)
  have HB := Lib.hid (show Below w.heap.size w W2 by rw [hW2]; exact bel_alloc (bel_alloc (bel_alloc (Below.refl _ _) _) _) _)
  clear hW2
  have z1 := blk_lt g1
  have z2 := blk_lt g2
  have x0 := cellsAt g1 0
  have x1 := cellsAt g1 1
  have x2 := cellsAt g1 2
  have y0 := cellsAt g2 0
  have y1 := cellsAt g2 1
  have y2 := cellsAt g2 2
  simp at x0 x1 x2 y0 y1 y2
  go_still_tail 17, (by kernel_rfl)
  still_call (fplus_any a1 a2 _)
  repeat still_step
  still_call (fnone_any b1 b2 _)
  repeat still_step
  try refine wpStill_nil ?_
  change wpList _ _ _ _ _ W2.drew
  have HD := Lib.hid (show Below w.heap.size w W2.drew from Below.drew HB.out)
  have G3 := Lib.hid (show W2.drew.heap[w.heap.size + 1 + 1]? = some (.cells #[.int .i64 0, .int .i64 0, .int .i64 0] 57 (0, 0)) from g3)
  generalize W2.drew = W3 at HD G3
  clear HB z1 z2 x0 x1 x2 y0 y1 y2 g1 g2 g3
  have z3 := blk_lt G3.out
  have u0 := cellsAt G3.out 0
  have u1 := cellsAt G3.out 1
  have u2 := cellsAt G3.out 2
  have fu := frozAt G3.out
  simp at u0 u1 u2
  go_wp2_with fail
  obtain ⟨Wf, hWf⟩ : ∃ X, X = (((W3.setCell ⟨w.heap.size + 1 + 1, 0, none⟩ (.int .i64 (n1 + n2))).setCell ⟨w.heap.size + 1 + 1, 1, none⟩ (.int .i64 (wrap64 (a1 + a2)))).setCell ⟨w.heap.size + 1 + 1, 2, none⟩ (.int .i64 (0))) := ⟨_, rfl⟩
  rw [← hWf]
  have hz : Wf.heap[w.heap.size + 1 + 1]? = some (.cells #[.int .i64 (n1 + n2), .int .i64 (wrap64 (a1 + a2)), .int .i64 (0)] 57 (0, 0)) := by rw [hWf]; have := blk_set (blk_set (blk_set G3.out 0 (.int .i64 (n1 + n2))) 1 (.int .i64 (wrap64 (a1 + a2)))) 2 (.int .i64 (0)); simpa using this
  have hB : Below w.heap.size w Wf := by rw [hWf]; exact ((HD.out.setCell (p := ⟨w.heap.size + 1 + 1, 0, none⟩) (by simp; omega) _).setCell (p := ⟨w.heap.size + 1 + 1, 1, none⟩) (by simp; omega) _).setCell (p := ⟨w.heap.size + 1 + 1, 2, none⟩) (by simp; omega) _
  clear hWf u0 u1 u2
  have y0 := cellsAt hz 0
  have y1 := cellsAt hz 1
  have y2 := cellsAt hz 2
  simp at y0 y1 y2
  refine bodyPost_ret (v := .agg #[.int .i64 (n1 + n2), .int .i64 (wrap64 (a1 + a2)), .int .i64 (0)]) (by simp [results, Try.results118, go_sem, y0, y1, y2]) rfl ?_
  exact ⟨⟨_, _, rfl, i64_wrap _, i64_0⟩, hB⟩
theorem fields3_any (w : World) : Calls Try.prog 124 #[.int .i64 3] w fun e w' => e = .returned (.tuple #[.func (.func 128) #[] #[], .func (.func 127) #[] #[]]) ∧ w' = w := by
  go_enter Try.func124, Try.ntmps124
  go_wp2
  go_ret2
  exact ⟨rfl, rfl⟩
set_option maxRecDepth 100000 in
theorem join3_any (n1 a1 b1 n2 a2 b2 : Int) (w : World) (h1 : 1 ≤ n1) (h2 : 1 ≤ n2) (h3 : n1 + n2 ≤ 4611686018427387904) (ha : i64B a1 ∧ i64B a2 ∧ i64B b1 ∧ i64B b2) : Calls Try.prog 118 #[.int .i64 3, .agg #[.int .i64 n1, .int .i64 a1, .int .i64 b1], .agg #[.int .i64 n2, .int .i64 a2, .int .i64 b2]] w (JnTo (n1 + n2) w) := by
  have HA := Lib.hid ha
  clear ha
  have d1 : (n1 == 0) = false := by simp; omega
  have d2 : (n2 == 0) = false := by simp; omega
  have d3 : ¬ n1 = 0 := by omega
  have d4 : ¬ n2 = 0 := by omega
  have hw : IntKind.i64.wrap (n1 + n2) = n1 + n2 := by rw [IntKind.wrap_i64]; omega
  have hw2 : wrap64 (n1 + n2) = n1 + n2 := by unfold wrap64; omega
  go_enter Try.func118, Try.ntmps118
  go_upto_region 8 with (first | (go_at_call 124; refine (fields3_any _).mono ?_; rintro e w' ⟨rfl, rfl⟩) | go_in)
  obtain ⟨W2, hW2⟩ : ∃ X, X = (((w.alloc (.cells #[.int .i64 n1, .int .i64 a1, .int .i64 b1] 57)).alloc (.cells #[.int .i64 n2, .int .i64 a2, .int .i64 b2] 57)).alloc (.cells #[.int .i64 0, .int .i64 0, .int .i64 0] 57)) := ⟨_, rfl⟩
  rw [← hW2]
  have g1 : W2.heap[w.heap.size]? = some (.cells #[.int .i64 n1, .int .i64 a1, .int .i64 b1] 57 (0, 0)) := by rw [hW2]; exact heap_below (heap_below (heap_at w _ _ rfl) (bel_alloc (Below.refl _ _) _)) (bel_alloc (Below.refl _ _) _)
  have g2 : W2.heap[w.heap.size + 1]? = some (.cells #[.int .i64 n2, .int .i64 a2, .int .i64 b2] 57 (0, 0)) := by rw [hW2]; exact heap_below (heap_at (w.alloc _) _ _ (by simp)) (bel_alloc (Below.refl _ _) _)
  have g3 : W2.heap[w.heap.size + 1 + 1]? = some (.cells #[.int .i64 0, .int .i64 0, .int .i64 0] 57 (0, 0)) := by rw [hW2]; exact heap_at _ _ _ (by simp)
  have HB := Lib.hid (show Below w.heap.size w W2 by rw [hW2]; exact bel_alloc (bel_alloc (bel_alloc (Below.refl _ _) _) _) _)
  clear hW2
  have z1 := blk_lt g1
  have z2 := blk_lt g2
  have x0 := cellsAt g1 0
  have x1 := cellsAt g1 1
  have x2 := cellsAt g1 2
  have y0 := cellsAt g2 0
  have y1 := cellsAt g2 1
  have y2 := cellsAt g2 2
  simp at x0 x1 x2 y0 y1 y2
  go_still_tail 17, (by kernel_rfl)
  still_call (fleast_any a1 a2 _)
  repeat still_step
  still_call (fnone_any b1 b2 _)
  repeat still_step
  try refine wpStill_nil ?_
  change wpList _ _ _ _ _ W2.drew
  have HD := Lib.hid (show Below w.heap.size w W2.drew from Below.drew HB.out)
  have G3 := Lib.hid (show W2.drew.heap[w.heap.size + 1 + 1]? = some (.cells #[.int .i64 0, .int .i64 0, .int .i64 0] 57 (0, 0)) from g3)
  generalize W2.drew = W3 at HD G3
  clear HB z1 z2 x0 x1 x2 y0 y1 y2 g1 g2 g3
  have z3 := blk_lt G3.out
  have u0 := cellsAt G3.out 0
  have u1 := cellsAt G3.out 1
  have u2 := cellsAt G3.out 2
  have fu := frozAt G3.out
  simp at u0 u1 u2
  go_wp2_with fail
  obtain ⟨Wf, hWf⟩ : ∃ X, X = (((W3.setCell ⟨w.heap.size + 1 + 1, 0, none⟩ (.int .i64 (n1 + n2))).setCell ⟨w.heap.size + 1 + 1, 1, none⟩ (.int .i64 (min a1 a2))).setCell ⟨w.heap.size + 1 + 1, 2, none⟩ (.int .i64 (0))) := ⟨_, rfl⟩
  rw [← hWf]
  have hz : Wf.heap[w.heap.size + 1 + 1]? = some (.cells #[.int .i64 (n1 + n2), .int .i64 (min a1 a2), .int .i64 (0)] 57 (0, 0)) := by rw [hWf]; have := blk_set (blk_set (blk_set G3.out 0 (.int .i64 (n1 + n2))) 1 (.int .i64 (min a1 a2))) 2 (.int .i64 (0)); simpa using this
  have hB : Below w.heap.size w Wf := by rw [hWf]; exact ((HD.out.setCell (p := ⟨w.heap.size + 1 + 1, 0, none⟩) (by simp; omega) _).setCell (p := ⟨w.heap.size + 1 + 1, 1, none⟩) (by simp; omega) _).setCell (p := ⟨w.heap.size + 1 + 1, 2, none⟩) (by simp; omega) _
  clear hWf u0 u1 u2
  have y0 := cellsAt hz 0
  have y1 := cellsAt hz 1
  have y2 := cellsAt hz 2
  simp at y0 y1 y2
  refine bodyPost_ret (v := .agg #[.int .i64 (n1 + n2), .int .i64 (min a1 a2), .int .i64 (0)]) (by simp [results, Try.results118, go_sem, y0, y1, y2]) rfl ?_
  exact ⟨⟨_, _, rfl, i64_min HA.out.1 HA.out.2.1, i64_0⟩, hB⟩
theorem fields4_any (w : World) : Calls Try.prog 124 #[.int .i64 4] w fun e w' => e = .returned (.tuple #[.func (.func 129) #[] #[], .func (.func 127) #[] #[]]) ∧ w' = w := by
  go_enter Try.func124, Try.ntmps124
  go_wp2
  go_ret2
  exact ⟨rfl, rfl⟩
set_option maxRecDepth 100000 in
theorem join4_any (n1 a1 b1 n2 a2 b2 : Int) (w : World) (h1 : 1 ≤ n1) (h2 : 1 ≤ n2) (h3 : n1 + n2 ≤ 4611686018427387904) (ha : i64B a1 ∧ i64B a2 ∧ i64B b1 ∧ i64B b2) : Calls Try.prog 118 #[.int .i64 4, .agg #[.int .i64 n1, .int .i64 a1, .int .i64 b1], .agg #[.int .i64 n2, .int .i64 a2, .int .i64 b2]] w (JnTo (n1 + n2) w) := by
  have HA := Lib.hid ha
  clear ha
  have d1 : (n1 == 0) = false := by simp; omega
  have d2 : (n2 == 0) = false := by simp; omega
  have d3 : ¬ n1 = 0 := by omega
  have d4 : ¬ n2 = 0 := by omega
  have hw : IntKind.i64.wrap (n1 + n2) = n1 + n2 := by rw [IntKind.wrap_i64]; omega
  have hw2 : wrap64 (n1 + n2) = n1 + n2 := by unfold wrap64; omega
  go_enter Try.func118, Try.ntmps118
  go_upto_region 8 with (first | (go_at_call 124; refine (fields4_any _).mono ?_; rintro e w' ⟨rfl, rfl⟩) | go_in)
  obtain ⟨W2, hW2⟩ : ∃ X, X = (((w.alloc (.cells #[.int .i64 n1, .int .i64 a1, .int .i64 b1] 57)).alloc (.cells #[.int .i64 n2, .int .i64 a2, .int .i64 b2] 57)).alloc (.cells #[.int .i64 0, .int .i64 0, .int .i64 0] 57)) := ⟨_, rfl⟩
  rw [← hW2]
  have g1 : W2.heap[w.heap.size]? = some (.cells #[.int .i64 n1, .int .i64 a1, .int .i64 b1] 57 (0, 0)) := by rw [hW2]; exact heap_below (heap_below (heap_at w _ _ rfl) (bel_alloc (Below.refl _ _) _)) (bel_alloc (Below.refl _ _) _)
  have g2 : W2.heap[w.heap.size + 1]? = some (.cells #[.int .i64 n2, .int .i64 a2, .int .i64 b2] 57 (0, 0)) := by rw [hW2]; exact heap_below (heap_at (w.alloc _) _ _ (by simp)) (bel_alloc (Below.refl _ _) _)
  have g3 : W2.heap[w.heap.size + 1 + 1]? = some (.cells #[.int .i64 0, .int .i64 0, .int .i64 0] 57 (0, 0)) := by rw [hW2]; exact heap_at _ _ _ (by simp)
  have HB := Lib.hid (show Below w.heap.size w W2 by rw [hW2]; exact bel_alloc (bel_alloc (bel_alloc (Below.refl _ _) _) _) _)
  clear hW2
  have z1 := blk_lt g1
  have z2 := blk_lt g2
  have x0 := cellsAt g1 0
  have x1 := cellsAt g1 1
  have x2 := cellsAt g1 2
  have y0 := cellsAt g2 0
  have y1 := cellsAt g2 1
  have y2 := cellsAt g2 2
  simp at x0 x1 x2 y0 y1 y2
  go_still_tail 17, (by kernel_rfl)
  still_call (fmost_any a1 a2 _)
  repeat still_step
  still_call (fnone_any b1 b2 _)
  repeat still_step
  try refine wpStill_nil ?_
  change wpList _ _ _ _ _ W2.drew
  have HD := Lib.hid (show Below w.heap.size w W2.drew from Below.drew HB.out)
  have G3 := Lib.hid (show W2.drew.heap[w.heap.size + 1 + 1]? = some (.cells #[.int .i64 0, .int .i64 0, .int .i64 0] 57 (0, 0)) from g3)
  generalize W2.drew = W3 at HD G3
  clear HB z1 z2 x0 x1 x2 y0 y1 y2 g1 g2 g3
  have z3 := blk_lt G3.out
  have u0 := cellsAt G3.out 0
  have u1 := cellsAt G3.out 1
  have u2 := cellsAt G3.out 2
  have fu := frozAt G3.out
  simp at u0 u1 u2
  go_wp2_with fail
  obtain ⟨Wf, hWf⟩ : ∃ X, X = (((W3.setCell ⟨w.heap.size + 1 + 1, 0, none⟩ (.int .i64 (n1 + n2))).setCell ⟨w.heap.size + 1 + 1, 1, none⟩ (.int .i64 (max a1 a2))).setCell ⟨w.heap.size + 1 + 1, 2, none⟩ (.int .i64 (0))) := ⟨_, rfl⟩
  rw [← hWf]
  have hz : Wf.heap[w.heap.size + 1 + 1]? = some (.cells #[.int .i64 (n1 + n2), .int .i64 (max a1 a2), .int .i64 (0)] 57 (0, 0)) := by rw [hWf]; have := blk_set (blk_set (blk_set G3.out 0 (.int .i64 (n1 + n2))) 1 (.int .i64 (max a1 a2))) 2 (.int .i64 (0)); simpa using this
  have hB : Below w.heap.size w Wf := by rw [hWf]; exact ((HD.out.setCell (p := ⟨w.heap.size + 1 + 1, 0, none⟩) (by simp; omega) _).setCell (p := ⟨w.heap.size + 1 + 1, 1, none⟩) (by simp; omega) _).setCell (p := ⟨w.heap.size + 1 + 1, 2, none⟩) (by simp; omega) _
  clear hWf u0 u1 u2
  have y0 := cellsAt hz 0
  have y1 := cellsAt hz 1
  have y2 := cellsAt hz 2
  simp at y0 y1 y2
  refine bodyPost_ret (v := .agg #[.int .i64 (n1 + n2), .int .i64 (max a1 a2), .int .i64 (0)]) (by simp [results, Try.results118, go_sem, y0, y1, y2]) rfl ?_
  exact ⟨⟨_, _, rfl, i64_max HA.out.1 HA.out.2.1, i64_0⟩, hB⟩
theorem fields5_any (w : World) : Calls Try.prog 124 #[.int .i64 5] w fun e w' => e = .returned (.tuple #[.func (.func 128) #[] #[], .func (.func 129) #[] #[]]) ∧ w' = w := by
  go_enter Try.func124, Try.ntmps124
  go_wp2
  go_ret2
  exact ⟨rfl, rfl⟩
set_option maxRecDepth 100000 in
theorem join5_any (n1 a1 b1 n2 a2 b2 : Int) (w : World) (h1 : 1 ≤ n1) (h2 : 1 ≤ n2) (h3 : n1 + n2 ≤ 4611686018427387904) (ha : i64B a1 ∧ i64B a2 ∧ i64B b1 ∧ i64B b2) : Calls Try.prog 118 #[.int .i64 5, .agg #[.int .i64 n1, .int .i64 a1, .int .i64 b1], .agg #[.int .i64 n2, .int .i64 a2, .int .i64 b2]] w (JnTo (n1 + n2) w) := by
  have HA := Lib.hid ha
  clear ha
  have d1 : (n1 == 0) = false := by simp; omega
  have d2 : (n2 == 0) = false := by simp; omega
  have d3 : ¬ n1 = 0 := by omega
  have d4 : ¬ n2 = 0 := by omega
  have hw : IntKind.i64.wrap (n1 + n2) = n1 + n2 := by rw [IntKind.wrap_i64]; omega
  have hw2 : wrap64 (n1 + n2) = n1 + n2 := by unfold wrap64; omega
  go_enter Try.func118, Try.ntmps118
  go_upto_region 8 with (first | (go_at_call 124; refine (fields5_any _).mono ?_; rintro e w' ⟨rfl, rfl⟩) | go_in)
  obtain ⟨W2, hW2⟩ : ∃ X, X = (((w.alloc (.cells #[.int .i64 n1, .int .i64 a1, .int .i64 b1] 57)).alloc (.cells #[.int .i64 n2, .int .i64 a2, .int .i64 b2] 57)).alloc (.cells #[.int .i64 0, .int .i64 0, .int .i64 0] 57)) := ⟨_, rfl⟩
  rw [← hW2]
  have g1 : W2.heap[w.heap.size]? = some (.cells #[.int .i64 n1, .int .i64 a1, .int .i64 b1] 57 (0, 0)) := by rw [hW2]; exact heap_below (heap_below (heap_at w _ _ rfl) (bel_alloc (Below.refl _ _) _)) (bel_alloc (Below.refl _ _) _)
  have g2 : W2.heap[w.heap.size + 1]? = some (.cells #[.int .i64 n2, .int .i64 a2, .int .i64 b2] 57 (0, 0)) := by rw [hW2]; exact heap_below (heap_at (w.alloc _) _ _ (by simp)) (bel_alloc (Below.refl _ _) _)
  have g3 : W2.heap[w.heap.size + 1 + 1]? = some (.cells #[.int .i64 0, .int .i64 0, .int .i64 0] 57 (0, 0)) := by rw [hW2]; exact heap_at _ _ _ (by simp)
  have HB := Lib.hid (show Below w.heap.size w W2 by rw [hW2]; exact bel_alloc (bel_alloc (bel_alloc (Below.refl _ _) _) _) _)
  clear hW2
  have z1 := blk_lt g1
  have z2 := blk_lt g2
  have x0 := cellsAt g1 0
  have x1 := cellsAt g1 1
  have x2 := cellsAt g1 2
  have y0 := cellsAt g2 0
  have y1 := cellsAt g2 1
  have y2 := cellsAt g2 2
  simp at x0 x1 x2 y0 y1 y2
  go_still_tail 17, (by kernel_rfl)
  still_call (fleast_any a1 a2 _)
  repeat still_step
  still_call (fmost_any b1 b2 _)
  repeat still_step
  try refine wpStill_nil ?_
  change wpList _ _ _ _ _ W2.drew
  have HD := Lib.hid (show Below w.heap.size w W2.drew from Below.drew HB.out)
  have G3 := Lib.hid (show W2.drew.heap[w.heap.size + 1 + 1]? = some (.cells #[.int .i64 0, .int .i64 0, .int .i64 0] 57 (0, 0)) from g3)
  generalize W2.drew = W3 at HD G3
  clear HB z1 z2 x0 x1 x2 y0 y1 y2 g1 g2 g3
  have z3 := blk_lt G3.out
  have u0 := cellsAt G3.out 0
  have u1 := cellsAt G3.out 1
  have u2 := cellsAt G3.out 2
  have fu := frozAt G3.out
  simp at u0 u1 u2
  go_wp2_with fail
  obtain ⟨Wf, hWf⟩ : ∃ X, X = (((W3.setCell ⟨w.heap.size + 1 + 1, 0, none⟩ (.int .i64 (n1 + n2))).setCell ⟨w.heap.size + 1 + 1, 1, none⟩ (.int .i64 (min a1 a2))).setCell ⟨w.heap.size + 1 + 1, 2, none⟩ (.int .i64 (max b1 b2))) := ⟨_, rfl⟩
  rw [← hWf]
  have hz : Wf.heap[w.heap.size + 1 + 1]? = some (.cells #[.int .i64 (n1 + n2), .int .i64 (min a1 a2), .int .i64 (max b1 b2)] 57 (0, 0)) := by rw [hWf]; have := blk_set (blk_set (blk_set G3.out 0 (.int .i64 (n1 + n2))) 1 (.int .i64 (min a1 a2))) 2 (.int .i64 (max b1 b2)); simpa using this
  have hB : Below w.heap.size w Wf := by rw [hWf]; exact ((HD.out.setCell (p := ⟨w.heap.size + 1 + 1, 0, none⟩) (by simp; omega) _).setCell (p := ⟨w.heap.size + 1 + 1, 1, none⟩) (by simp; omega) _).setCell (p := ⟨w.heap.size + 1 + 1, 2, none⟩) (by simp; omega) _
  clear hWf u0 u1 u2
  have y0 := cellsAt hz 0
  have y1 := cellsAt hz 1
  have y2 := cellsAt hz 2
  simp at y0 y1 y2
  refine bodyPost_ret (v := .agg #[.int .i64 (n1 + n2), .int .i64 (min a1 a2), .int .i64 (max b1 b2)]) (by simp [results, Try.results118, go_sem, y0, y1, y2]) rfl ?_
  exact ⟨⟨_, _, rfl, i64_min HA.out.1 HA.out.2.1, i64_max HA.out.2.2.1 HA.out.2.2.2⟩, hB⟩
end Go.Proofs.Ytlboehpgpbchhaa
