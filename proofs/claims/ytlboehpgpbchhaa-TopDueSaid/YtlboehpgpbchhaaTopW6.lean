/-
  WALKS of the top laws: which pane stands ahead.
-/
import Derived.Test.YtlboehpgpbchhaaTopW5
import Derived.StillTailTactics
set_option linter.unusedVariables false
set_option linter.unusedSimpArgs false
namespace Go.Proofs.Ytlboehpgpbchhaa
open Go.RowKit

set_option maxRecDepth 100000 in
theorem cmpp_any (p q : Pn) (w : World) : Calls Try.prog 65 #[p.val, q.val] w fun e w' => e = .returned (.int .i64 (cmpP p q)) ∧ Below w.heap.size w w' := by
  obtain ⟨lo, hi, k, n, a, b⟩ := p
  obtain ⟨lo2, hi2, k2, n2, a2, b2⟩ := q
  have HI := Lib.hid (fun a b w => cmpi_any a b w)
  have HS := Lib.hid (fun a b w => cmps_any a b w)
  unfold Pn.val
  simp only
  go_enter Try.func65, Try.ntmps65
  go_wp2_with fail
  obtain ⟨W2, hW2⟩ : ∃ X, X = ((w.alloc (.cells #[.int .i64 lo, .int .i64 hi, .string k, .int .i64 n, .int .i64 a, .int .i64 b] 59)).alloc (.cells #[.int .i64 lo2, .int .i64 hi2, .string k2, .int .i64 n2, .int .i64 a2, .int .i64 b2] 59)) := ⟨_, rfl⟩
  rw [← hW2]
  have h1 : W2.heap[w.heap.size]? = some (.cells #[.int .i64 lo, .int .i64 hi, .string k, .int .i64 n, .int .i64 a, .int .i64 b] 59 (0, 0)) := by rw [hW2]; exact heap_below (heap_at w _ _ rfl) (bel_alloc (Below.refl _ _) _)
  have h2 : W2.heap[w.heap.size + 1]? = some (.cells #[.int .i64 lo2, .int .i64 hi2, .string k2, .int .i64 n2, .int .i64 a2, .int .i64 b2] 59 (0, 0)) := by rw [hW2]; exact heap_at _ _ _ (by simp)
  have HB := Lib.hid (show Below w.heap.size w W2 by rw [hW2]; exact bel_alloc (bel_alloc (Below.refl _ _) _) _)
  clear hW2
  have z1 := blk_lt h1
  have z2 := blk_lt h2
  have x0 := cellsAt h1 0
  have x1 := cellsAt h1 1
  have x2 := cellsAt h1 2
  have y0 := cellsAt h2 0
  have y1 := cellsAt h2 1
  have y2 := cellsAt h2 2
  simp at x0 x1 x2 y0 y1 y2
  clear h1 h2
  go_still_tail 19, (by kernel_rfl)
  still_call (HI.out hi hi2 _)
  repeat still_step
  still_call (HI.out lo lo2 _)
  repeat still_step
  still_call (HS.out k k2 _)
  repeat still_step
  refine wpStill_nil ?_
  change wpList _ _ _ _ _ W2.drew
  have HD := Lib.hid (show Below w.heap.size w W2.drew from Below.drew HB.out)
  generalize W2.drew = W3 at HD
  clear HB z1 z2 x0 x1 x2 y0 y1 y2
  go_wp2_with fail
  refine (or_any _ _ _ W3.heap.size _ _ (heap_at _ _ _ rfl)).mono ?_
  rintro e w' ⟨rfl, rfl⟩
  go_wp2_with fail
  go_ret
  exact ⟨rfl, bel_alloc HD.out _⟩
end Go.Proofs.Ytlboehpgpbchhaa
