/-
  WALKS of layer 19: alive.
-/
import Derived.Test.YtenpgkkefielfaaSinkW9
import Derived.Test.YtenpgkkefielfaaSinkW10
set_option linter.unusedVariables false
set_option linter.unusedSimpArgs false
namespace Go.Proofs.Ytenpgkkefielfaa
open Go.RowKit

def resA : Res := ⟨0, 1, ⟨#[97]⟩, 1, 0⟩
theorem resA_may : mayB resA = true := by decide
theorem resA_wf : resA.Wf := by unfold resA Res.Wf wfL maxLen; simp [ByteArray.size]
theorem zS_at (W : World) : SinkAt W zS [] [] 0 [] := sink_bare (W := W) ⟨Row.none_, by simp, by simp⟩ (by unfold wfL; omega)
theorem zS_right : rightS [] [] 0 [] = true := by decide
set_option maxRecDepth 100000 in
set_option maxHeartbeats 1000000 in
theorem alive_any (w : World) : Calls Try.prog 34 #[] w fun e w' => e = .returned (.bool true) ∧ Below w.heap.size w w' := by
  have HA := Lib.hid (fun W => sadd_yes [] [] 0 [] resA zS W (zS_at W) zS_right resA_may resA_wf (by decide))
  unfold zS resA Res.val at HA
  go_enter Try.func34, Try.ntmps34
  go_wp2_with fail
  refine (HA.out _).mono ?_
  rintro e w1 ⟨v', rfl, hs, hb1, -⟩
  obtain ⟨A1, c1, A2, c2, A3, c3, rfl⟩ := sink_form hs
  go_wp2_with fail
  go_ret
  exact ⟨rfl, bel_alloc hb1 _⟩
end Go.Proofs.Ytenpgkkefielfaa
