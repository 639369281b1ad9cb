/-
  WALKS of the top laws: folds.
-/
import Derived.Test.YtlboehpgpbchhaaTopW7
set_option linter.unusedVariables false
set_option linter.unusedSimpArgs false
namespace Go.Proofs.Ytlboehpgpbchhaa
open Go.RowKit

theorem i64_0 : i64B 0 := by unfold i64B; omega
theorem i64_1 : i64B 1 := by unfold i64B; omega
/-- What fold.One tells. -/
def OnTo (f : Int) (w : World) (e : Ending) (w' : World) : Prop := (∃ n a b, e = .returned (.agg #[.int .i64 n, .int .i64 a, .int .i64 b]) ∧ (fR f = true → n = 1) ∧ i64B n ∧ i64B a ∧ i64B b) ∧ Below w.heap.size w w'
set_option maxRecDepth 100000 in
theorem one_any (f v : Int) (w : World) (hv : i64B v) : Calls Try.prog 102 #[.int .i64 f, .int .i64 v] w (OnTo f w) := by
  have HV := Lib.hid hv
  clear hv
  go_enter Try.func102, Try.ntmps102
  go_wp2
  · refine bodyPost_ret (v := .agg #[.int .i64 1, .int .i64 0, .int .i64 0]) (by simp [results, Try.results102, go_sem]) rfl ?_
    exact ⟨⟨_, _, _, rfl, fun _ => rfl, i64_1, i64_0, i64_0⟩, bel_alloc (bel_alloc (Below.refl _ _) _) _⟩
  · refine bodyPost_ret (v := .agg #[.int .i64 1, .int .i64 v, .int .i64 0]) (by simp [results, Try.results102, go_sem]) rfl ?_
    exact ⟨⟨_, _, _, rfl, fun _ => rfl, i64_1, HV.out, i64_0⟩, bel_alloc (bel_alloc (Below.refl _ _) _) _⟩
  · refine bodyPost_ret (v := .agg #[.int .i64 1, .int .i64 v, .int .i64 0]) (by simp [results, Try.results102, go_sem]) rfl ?_
    exact ⟨⟨_, _, _, rfl, fun _ => rfl, i64_1, HV.out, i64_0⟩, bel_alloc (bel_alloc (Below.refl _ _) _) _⟩
  · refine bodyPost_ret (v := .agg #[.int .i64 1, .int .i64 v, .int .i64 0]) (by simp [results, Try.results102, go_sem]) rfl ?_
    exact ⟨⟨_, _, _, rfl, fun _ => rfl, i64_1, HV.out, i64_0⟩, bel_alloc (bel_alloc (Below.refl _ _) _) _⟩
  · refine bodyPost_ret (v := .agg #[.int .i64 1, .int .i64 v, .int .i64 v]) (by simp [results, Try.results102, go_sem]) rfl ?_
    exact ⟨⟨_, _, _, rfl, fun _ => rfl, i64_1, HV.out, HV.out⟩, bel_alloc (bel_alloc (Below.refl _ _) _) _⟩
  · refine bodyPost_ret (v := .agg #[.int .i64 0, .int .i64 0, .int .i64 0]) (by simp [results, Try.results102, go_sem]) rfl ?_
    exact ⟨⟨_, _, _, rfl, fun h => by simp at *; unfold fR at h; simp at h; omega, i64_0, i64_0, i64_0⟩, bel_alloc (bel_alloc (Below.refl _ _) _) _⟩
/-- What fold.Val tells: some number. -/
def VlTo (w : World) (e : Ending) (w' : World) : Prop := (∃ n, e = .returned (.int .i64 n) ∧ i64B n) ∧ Below w.heap.size w w'
theorem val_any (f n a b : Int) (w : World) (hn : i64B n) (ha : i64B a) (hb : i64B b) : Calls Try.prog 74 #[.int .i64 f, .agg #[.int .i64 n, .int .i64 a, .int .i64 b]] w (VlTo w) := by
  have HN := Lib.hid hn
  have HA := Lib.hid ha
  have HB := Lib.hid hb
  clear hn ha hb
  have HW : ∀ x, i64B (wrap64 x) := fun x => by unfold i64B wrap64; omega
  have HW2 : ∀ x, i64B (IntKind.i64.wrap x) := fun x => by unfold i64B; rw [IntKind.wrap_i64]; omega
  go_enter Try.func74, Try.ntmps74
  go_wp2
  all_goals
    go_ret
    first
    | exact ⟨⟨_, rfl, HN.out⟩, bel_alloc (Below.refl _ _) _⟩
    | exact ⟨⟨_, rfl, HA.out⟩, bel_alloc (Below.refl _ _) _⟩
    | exact ⟨⟨_, rfl, HW _⟩, bel_alloc (Below.refl _ _) _⟩
    | exact ⟨⟨_, rfl, HW2 _⟩, bel_alloc (Below.refl _ _) _⟩
    | exact ⟨⟨_, rfl, i64_0⟩, bel_alloc (Below.refl _ _) _⟩
end Go.Proofs.Ytlboehpgpbchhaa
