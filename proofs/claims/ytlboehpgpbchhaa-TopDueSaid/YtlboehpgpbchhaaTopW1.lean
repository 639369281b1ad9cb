/-
  WALKS of the top laws: times, windows' sizes, folds, jobs.
-/
import Derived.Test.YtlboehpgpbchhaaRowsK
import Derived.WalkKit
set_option linter.unusedVariables false
set_option linter.unusedSimpArgs false
namespace Go.Proofs.Ytlboehpgpbchhaa
open Go.RowKit

/-- A time within its bounds. -/
def tAt (t : Int) : Int := min (max t 0) 1099511627776
theorem tAt_lo (t : Int) : 0 ≤ tAt t := by unfold tAt; omega
theorem tAt_hi (t : Int) : tAt t ≤ 1099511627776 := by unfold tAt; omega
theorem tAt_id {t : Int} (h0 : 0 ≤ t) (h1 : t ≤ 1099511627776) : tAt t = t := by unfold tAt; omega
theorem at_any (t : Int) (w : World) : Calls Try.prog 119 #[.int .i64 t] w fun e w' => e = .returned (.int .i64 (tAt t)) ∧ w' = w := by
  go_enter Try.func119, Try.ntmps119
  go_wp2
  go_ret
  exact ⟨rfl, rfl⟩
theorem plus_any (a b : Int) (w : World) (h0 : 0 ≤ a) (h1 : a ≤ 1099511627776) (h2 : 0 ≤ b) (h3 : b ≤ 1099511627776) : Calls Try.prog 121 #[.int .i64 a, .int .i64 b] w fun e w' => e = .returned (.int .i64 (tAt (a + b))) ∧ w' = w := by
  go_enter Try.func121, Try.ntmps121
  go_wp2_with fail
  refine (at_any _ _).mono ?_
  rintro e w' ⟨rfl, rfl⟩
  go_wp2_with fail
  go_ret
  exact ⟨by simp, rfl⟩
theorem minus_any (a b : Int) (w : World) (h0 : 0 ≤ a) (h1 : a ≤ 1099511627776) (h2 : 0 ≤ b) (h3 : b ≤ 1099511627776) : Calls Try.prog 109 #[.int .i64 a, .int .i64 b] w fun e w' => e = .returned (.int .i64 (tAt (a - b))) ∧ w' = w := by
  go_enter Try.func109, Try.ntmps109
  go_wp2_with fail
  refine (at_any _ _).mono ?_
  rintro e w' ⟨rfl, rfl⟩
  go_wp2_with fail
  go_ret
  exact ⟨by simp, rfl⟩
theorem add_any (a b : Int) (w : World) : Calls Try.prog 115 #[.int .i64 a, .int .i64 b] w fun e w' => e = .returned (.int .i64 (tAt (tAt a + tAt b))) ∧ w' = w := by
  have a0 := tAt_lo a
  have a1 := tAt_hi a
  have b0 := tAt_lo b
  have b1 := tAt_hi b
  go_enter Try.func115, Try.ntmps115
  go_wp2_with (first | (go_at_call 119; refine (at_any _ _).mono ?_; rintro e w' ⟨rfl, rfl⟩) | (go_at_call 121; refine (plus_any _ _ _ a0 a1 b0 b1).mono ?_; rintro e w' ⟨rfl, rfl⟩) | go_in)
  go_ret
  exact ⟨rfl, rfl⟩
theorem sub_any (a b : Int) (w : World) : Calls Try.prog 98 #[.int .i64 a, .int .i64 b] w fun e w' => e = .returned (.int .i64 (tAt (tAt a - tAt b))) ∧ w' = w := by
  have a0 := tAt_lo a
  have a1 := tAt_hi a
  have b0 := tAt_lo b
  have b1 := tAt_hi b
  go_enter Try.func98, Try.ntmps98
  go_wp2_with (first | (go_at_call 119; refine (at_any _ _).mono ?_; rintro e w' ⟨rfl, rfl⟩) | (go_at_call 109; refine (minus_any _ _ _ a0 a1 b0 b1).mono ?_; rintro e w' ⟨rfl, rfl⟩) | go_in)
  go_ret
  exact ⟨rfl, rfl⟩
theorem clamp_any (t : Int) (w : World) : Calls Try.prog 120 #[.int .i64 t] w fun e w' => e = .returned (.int .i64 (tAt t)) ∧ w' = w := by
  go_enter Try.func120, Try.ntmps120
  go_wp2_with fail
  refine (at_any _ _).mono ?_
  rintro e w' ⟨rfl, rfl⟩
  go_wp2_with fail
  go_ret
  exact ⟨rfl, rfl⟩
theorem floor_any (t s : Int) (w : World) (h0 : 0 ≤ t) (h1 : t ≤ 1099511627776) (h2 : 1 ≤ s) (h3 : s ≤ 1099511627776) : Calls Try.prog 114 #[.int .i64 t, .int .i64 s] w fun e w' => e = .returned (.int .i64 (t - t % s)) ∧ w' = w := by
  have e1 := tAt_id h0 h1
  have t0 := Int.emod_nonneg t (show s ≠ 0 by omega)
  have t1 : t % s ≤ t := by
    have := Int.emod_lt_of_pos t (show (0 : Int) < s by omega)
    by_cases h : t < s
    · rw [Int.emod_eq_of_lt h0 h]; omega
    · omega
  have t2 : ¬ s = 0 := by omega
  have t3 : (s == 0) = false := by simp; omega
  have d1 : decide (s < 1) = false := decide_eq_false (by omega)
  have d2 : decide (1099511627776 < s) = false := decide_eq_false (by omega)
  go_enter Try.func114, Try.ntmps114
  go_wp2_with fail
  refine (clamp_any _ _).mono ?_
  rintro e w' ⟨rfl, rfl⟩
  rw [e1]
  go_wp2_with fail
  go_ret
  have e2 : RowKit.wrap64 (t - t % s) = t - t % s := by unfold RowKit.wrap64; omega
  exact ⟨by simp [e2], rfl⟩
def wR (size slide : Int) : Bool := decide (1 ≤ slide) && decide (slide ≤ size) && decide (size ≤ 1048576) && decide (size ≤ 16 * slide)
theorem wright_any (a b : Int) (w : World) : Calls Try.prog 50 #[.int .i64 a, .int .i64 b] w fun e w' => e = .returned (.bool (wR a b)) ∧ w' = w := by
  go_enter Try.func50, Try.ntmps50
  go_wp2
  all_goals
    go_ret
    refine ⟨congrArg (fun b => Ending.returned (Value.bool b)) (?_ : _ = wR a b), rfl⟩
    rw [Bool.eq_iff_iff]
    simp [wR]
    omega
def fR (k : Int) : Bool := decide (1 ≤ k) && decide (k ≤ 5)
theorem fright_any (k : Int) (w : World) : Calls Try.prog 51 #[.int .i64 k] w fun e w' => e = .returned (.bool (fR k)) ∧ w' = w := by
  go_enter Try.func51, Try.ntmps51
  go_wp2
  all_goals
    go_ret
    refine ⟨congrArg (fun b => Ending.returned (Value.bool b)) (?_ : _ = fR k), rfl⟩
    rw [Bool.eq_iff_iff]
    simp [fR]
    omega
/-- A job. -/
structure Jb where
  g : Int
  s : Int
  d : Int
  f : Int
  u : Int
  l : Int
  y : Int
  i : Int
def Jb.cs (j : Jb) : Array Value := #[.int .i64 j.g, .int .i64 j.s, .int .i64 j.d, .int .i64 j.f, .int .i64 j.u, .int .i64 j.l, .int .i64 j.y, .int .i64 j.i]
def jR (j : Jb) : Bool := decide (1 ≤ j.g) && decide (j.g ≤ 32) && wR j.s j.d && fR j.f && decide (0 ≤ j.u) && decide (j.u ≤ 40) && decide (0 ≤ j.l) && decide (0 ≤ j.y) && decide (j.y ≤ 1099511627776) && decide (0 ≤ j.i) && decide (j.i ≤ 1048576)
set_option maxRecDepth 100000 in
theorem jright_any (j : Jb) (w : World) : Calls Try.prog 82 #[.agg j.cs] w fun e w' => e = .returned (.bool (jR j)) ∧ Below w.heap.size w w' := by
  obtain ⟨g, s, d, f, u, l, y, i⟩ := j
  unfold Jb.cs
  simp only
  have HW := Lib.hid (fun w => wright_any s d w)
  have HF := Lib.hid (fun w => fright_any f w)
  obtain ⟨bw, hbw⟩ : ∃ b, wR s d = b := ⟨_, rfl⟩
  obtain ⟨bf, hbf⟩ : ∃ b, fR f = b := ⟨_, rfl⟩
  rw [hbw] at HW
  rw [hbf] at HF
  have HBW := Lib.hid hbw
  have HBF := Lib.hid hbf
  clear hbw hbf
  go_enter Try.func82, Try.ntmps82
  cases bw <;> cases bf
  all_goals
    go_wp2_with (first | (go_at_call 50; refine (HW.out _).mono ?_; rintro e w' ⟨rfl, rfl⟩) | (go_at_call 51; refine (HF.out _).mono ?_; rintro e w' ⟨rfl, rfl⟩))
  all_goals
    go_ret
    refine ⟨congrArg (fun b => Ending.returned (Value.bool b)) (?_ : _ = jR _), bel_alloc (Below.refl _ _) _⟩
    rw [Bool.eq_iff_iff]
    simp [jR, HBW.out, HBF.out]
    try omega
end Go.Proofs.Ytlboehpgpbchhaa
