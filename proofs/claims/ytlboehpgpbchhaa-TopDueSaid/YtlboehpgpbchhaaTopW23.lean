/-
  WALKS of the top laws: a plain job has results.
-/
import Derived.Test.YtlboehpgpbchhaaTopW22
set_option linter.unusedVariables false
set_option linter.unusedSimpArgs false
namespace Go.Proofs.Ytlboehpgpbchhaa
open Go.RowKit

def eOne : Ev := ⟨⟨#[97]⟩, 0, 0⟩
def jOne : Jb := ⟨1, 1, 1, 2, 0, 0, 0, 0⟩
theorem in1_one (w : World) : In1 ((w.alloc (.cells #[.string ⟨#[97]⟩, .int .i64 0, .int .i64 0] 93)).alloc (.cells #[.slice (some ⟨w.heap.size, 0, none⟩) 1 1] 94)) (.slice (some ⟨w.heap.size + 1, 0, none⟩) 1 1) [eOne] := by
  have h1 := heap_below (heap_at w (.cells #[.string ⟨#[97]⟩, .int .i64 0, .int .i64 0] 93 (0, 0)) _ rfl) (bel_alloc (Below.refl _ _) (.cells #[.slice (some ⟨w.heap.size, 0, none⟩) 1 1] 94))
  have h2 := heap_at (w.alloc (.cells #[.string ⟨#[97]⟩, .int .i64 0, .int .i64 0] 93)) (.cells #[.slice (some ⟨w.heap.size, 0, none⟩) 1 1] 94 (0, 0)) (w.heap.size + 1) (by simp)
  refine ⟨⟨w.heap.size + 1, 0, 1, some ⟨w.heap.size, 0, none⟩, 1, rfl, blk_lt h2, cellsAt h2 0, ?_⟩, ?_, by decide⟩
  · refine Row.of_own (base := w.heap.size) (e := 93) (n := 1) Ev.cs_len ⟨rfl, .inr ⟨w.heap.size, 1, _, rfl, Nat.le_refl _, h1, Nat.le_refl _, by unfold maxLen; omega, rfl, rfl⟩⟩ rfl
  · intro x hx
    simp at hx
    subst hx
    unfold Ev.Wf eOne
    simp only
    refine ⟨?_, by omega, by omega⟩
    unfold maxLen
    decide
theorem one_ok : oneE jOne eOne ∧ jR jOne = true ∧ inB [eOne] = true := ⟨⟨rfl, rfl, rfl, rfl, by kernel_rfl⟩, by decide, by kernel_rfl⟩
set_option maxRecDepth 100000 in
set_option maxHeartbeats 2000000 in
theorem alive_any (w : World) : Calls Try.prog 28 #[] w fun e w' => e = .returned (.bool true) ∧ Below w.heap.size w w' := by
  have H1 := Lib.hid (in1_one w)
  have HO := Lib.hid one_ok
  go_enter Try.func28, Try.ntmps28
  go_wp2_with fail
  refine (run_any jOne [eOne] _ _ H1.out (by unfold i64B jOne; simp only; omega)).mono ?_
  rintro e w2 ⟨v, er, qs, rfl, hown, -, hone, hb⟩
  obtain ⟨h0, h1⟩ := hone eOne rfl HO.out.1 HO.out.2.1 HO.out.2.2
  subst h0
  rw [h1] at hown
  obtain ⟨A, c, rfl⟩ := own_slice hown
  have HB := Lib.hid (show Below w.heap.size w w2 from belA (bel_alloc (Below.refl _ _) _) hb)
  clear hown hone hb h1
  go_wp2_with fail
  go_ret
  exact ⟨rfl, HB.out⟩
end Go.Proofs.Ytlboehpgpbchhaa
