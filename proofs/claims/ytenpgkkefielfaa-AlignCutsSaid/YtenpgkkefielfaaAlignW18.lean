/-
  WALKS of layer 18: New, whose rows are its own.
-/
import Derived.Test.YtenpgkkefielfaaAlignW14
import Derived.Test.YtenpgkkefielfaaAlignW10
set_option linter.unusedVariables false
set_option linter.unusedSimpArgs false
namespace Go.Proofs.Ytenpgkkefielfaa
open Go.RowKit

theorem drewh (X : World) (b : Nat) : X.drew.heap[b]? = X.heap[b]? := rfl
/-- New's aligner is read as long as the blocks that were made stay. -/
def AnOwn (N : Nat) (w : World) (e : Ending) (w' : World) : Prop := (∃ v, e = .returned (.tuple #[v, .int .i64 0]) ∧ (∀ W' : World, (∀ b, w.heap.size ≤ b → b < w'.heap.size → W'.heap[b]? = w'.heap[b]?) → AlAt W' v (newA' N)) ∧ FrH w v) ∧ Below w.heap.size w w'
set_option maxHeartbeats 2000000 in
set_option maxRecDepth 100000 in
theorem anew_own (n : Int) (N : Nat) (hN : n = N) (w : World) (h1 : 1 ≤ n) (h8 : n ≤ 8) :
    Calls Try.prog 14 #[.int .i64 n] w (AnOwn N w) := by
  obtain ⟨i0, hi, hz0, hz1, hz2⟩ := info_parts info_bl
  have hmk := fun W : World => run_make W 24 4 i0 (.bool false) Try.underlying24 hi hz0 .i64 .i64 n n (by omega) (Int.le_refl _) (by rw [hz2]; omega) (by omega)
  rw [hz1, show n.toNat = N by omega] at hmk
  simp only [Value.cells, Nat.mul_one] at hmk
  clear hi hz0 hz1 hz2
  obtain ⟨i1, hi, hz0, hz1, hz2⟩ := info_parts info_li
  have hmk2 := fun W : World => run_make W 22 32 i1 (.slice none 0 0) Try.underlying22 hi hz0 .i64 .i64 n n (by omega) (Int.le_refl _) (by rw [hz2]; omega) (by omega)
  rw [hz1, show n.toNat = N by omega] at hmk2
  simp only [Value.cells, Nat.mul_one] at hmk2
  clear hi hz0 hz1 hz2
  have HN := Lib.hid hN
  clear hN
  go_enter Try.func14, Try.ntmps14
  go_wp2_with fail
  go_region
  all_goals
    go_wp2_with fail
    first | exact bodyPost_ret (v := .tuple #[.agg #[.int .i64 0, .slice (some ⟨w.heap.size + 1, 0, none⟩) N N, .slice (some ⟨w.heap.size + 1 + 1, 0, none⟩) N N], .int .i64 0]) (by simp [results, Try.results14, go_sem]) rfl ⟨⟨_, rfl, (fun W' hW' => newA_at (row1_made (enc := bCs) (x := false) (a := .bool false) rfl ((hW' (w.heap.size + 1) (by omega) (by simp)).trans ((drewh _ _).trans (heap_below (heap_at (w.alloc _) _ (w.heap.size + 1) (by simp)) (bel_alloc (Below.refl _ _) _))))) (row1_made (enc := Hl.cs) (x := hZ) (a := .slice none 0 0) rfl ((hW' (w.heap.size + 1 + 1) (by omega) (by simp)).trans ((drewh _ _).trans (heap_at _ _ (w.heap.size + 1 + 1) (by simp))))) (by have := HN.out; omega)), _, _, _, _, _, _, rfl, by omega, fun k hk => by have hk : w.heap.size + 1 = k := Option.some.inj hk; omega⟩, Below.drew (bel_alloc (bel_alloc (bel_alloc (Below.refl _ _) _) _) _)⟩ | exact bodyPost_ret (v := .tuple #[.agg #[.int .i64 0, .slice (some ⟨w.heap.size + 1 + 1, 0, none⟩) N N, .slice (some ⟨w.heap.size + 1, 0, none⟩) N N], .int .i64 0]) (by simp [results, Try.results14, go_sem]) rfl ⟨⟨_, rfl, (fun W' hW' => newA_at (row1_made (enc := bCs) (x := false) (a := .bool false) rfl ((hW' (w.heap.size + 1 + 1) (by omega) (by simp)).trans ((drewh _ _).trans (heap_at _ _ (w.heap.size + 1 + 1) (by simp))))) (row1_made (enc := Hl.cs) (x := hZ) (a := .slice none 0 0) rfl ((hW' (w.heap.size + 1) (by omega) (by simp)).trans ((drewh _ _).trans (heap_below (heap_at (w.alloc _) _ (w.heap.size + 1) (by simp)) (bel_alloc (Below.refl _ _) _))))) (by have := HN.out; omega)), _, _, _, _, _, _, rfl, by omega, fun k hk => by have hk : w.heap.size + 1 + 1 = k := Option.some.inj hk; omega⟩, Below.drew (bel_alloc (bel_alloc (bel_alloc (Below.refl _ _) _) _) _)⟩
end Go.Proofs.Ytenpgkkefielfaa
