/-
  WALKS of layer 20: the reference's May.
-/
import Derived.Test.YtdanfeldbdooeaaChunkW8
set_option linter.unusedVariables false
set_option linter.unusedSimpArgs false
namespace Go.Proofs.Ytdanfeldbdooeaa
open Go.RowKit

set_option maxHeartbeats 2000000 in
theorem rmay_any (c : Ck) (w : World) (b : Bool) (hb : mayB c = b) (hs : c.b.size ≤ 9223372036854775807) (ho : -9223372036854775808 ≤ c.of_ ∧ c.of_ ≤ 9223372036854775807) :
    Calls Try.prog 67 #[.agg #[.int .i64 c.g, .int .i64 c.no, .int .i64 c.of_, .string c.b]] w fun e w' => e = .returned (.bool b) ∧ Below w.heap.size w w' := by
  obtain ⟨g, no, of_, s⟩ := c
  unfold mayB at hb
  simp only at hb hs ho ⊢
  obtain ⟨q, hq⟩ : ∃ q, (decide (0 ≤ g) && decide (g < 32)) = q := ⟨_, rfl⟩
  rw [hq] at hb
  have HG := Lib.hid (fun W => rgroup_any g W q hq)
  clear hq
  obtain ⟨n, hn⟩ : ∃ n : Nat, s.size = n := ⟨_, rfl⟩
  rw [hn] at hb hs
  cases q with
  | false =>
    rw [Bool.false_and] at hb
    subst hb
    clear hn
    go_enter Try.func67, Try.ntmps67
    go_wp2_with fail
    refine (HG.out _).mono ?_
    rintro e w1 ⟨rfl, rfl⟩
    go_wp2_with fail
    go_ret
    exact ⟨rfl, bel_alloc (Below.refl _ _) _⟩
  | true =>
    rw [Bool.true_and] at hb
    by_cases h0 : 1 ≤ of_
    rotate_left
    · rw [decide_eq_false h0, Bool.false_and] at hb
      subst hb
      clear hn
      go_enter Try.func67, Try.ntmps67
      go_wp2_with fail
      refine (HG.out _).mono ?_
      rintro e w1 ⟨rfl, rfl⟩
      go_wp2_with fail
      go_ret
      exact ⟨rfl, bel_alloc (Below.refl _ _) _⟩
    rw [decide_eq_true h0, Bool.true_and] at hb
    by_cases h1 : of_ ≤ 512
    rotate_left
    · rw [decide_eq_false h1, Bool.false_and] at hb
      subst hb
      clear hn
      go_enter Try.func67, Try.ntmps67
      go_wp2_with fail
      refine (HG.out _).mono ?_
      rintro e w1 ⟨rfl, rfl⟩
      go_wp2_with fail
      go_ret
      exact ⟨rfl, bel_alloc (Below.refl _ _) _⟩
    rw [decide_eq_true h1, Bool.true_and] at hb
    by_cases h2 : 0 ≤ no
    rotate_left
    · rw [decide_eq_false h2, Bool.false_and] at hb
      subst hb
      clear hn
      go_enter Try.func67, Try.ntmps67
      go_wp2_with fail
      refine (HG.out _).mono ?_
      rintro e w1 ⟨rfl, rfl⟩
      go_wp2_with fail
      go_ret
      exact ⟨rfl, bel_alloc (Below.refl _ _) _⟩
    rw [decide_eq_true h2, Bool.true_and] at hb
    by_cases h3 : no < of_
    rotate_left
    · rw [decide_eq_false h3, Bool.false_and] at hb
      subst hb
      clear hn
      go_enter Try.func67, Try.ntmps67
      go_wp2_with fail
      refine (HG.out _).mono ?_
      rintro e w1 ⟨rfl, rfl⟩
      go_wp2_with fail
      go_ret
      exact ⟨rfl, bel_alloc (Below.refl _ _) _⟩
    rw [decide_eq_true h3, Bool.true_and] at hb
    by_cases h6 : n ≤ 256
    rotate_left
    · have hbf : b = false := by rw [← hb]; split <;> simp <;> omega
      clear hb
      subst hbf
      go_enter Try.func67, Try.ntmps67
      go_wp2_with fail
      refine (HG.out _).mono ?_
      rintro e w1 ⟨rfl, rfl⟩
      go_wp2_with fail
      go_ret
      exact ⟨rfl, bel_alloc (Below.refl _ _) _⟩
    by_cases h5 : no < of_ - 1
    · rw [if_pos h5] at hb
      have h5b : no + 1 < of_ := by omega
      have hbe : ((n : Int) == 256) = b := by rw [← hb, Bool.eq_iff_iff]; simp; omega
      clear hb
      have HE := Lib.hid hbe
      clear hbe
      go_enter Try.func67, Try.ntmps67
      go_wp2_with fail
      refine (HG.out _).mono ?_
      rintro e w1 ⟨rfl, rfl⟩
      go_wp2_with fail
      go_ret
      exact ⟨by rw [← HE.out]; rfl, bel_alloc (Below.refl _ _) _⟩
    · rw [if_neg h5] at hb
      have h5b : ¬ (no + 1 < of_) := by omega
      rw [decide_eq_true h6, Bool.true_and] at hb
      by_cases h7 : 0 < n
      · rw [decide_eq_true h7, Bool.true_or] at hb
        subst hb
        go_enter Try.func67, Try.ntmps67
        go_wp2_with fail
        refine (HG.out _).mono ?_
        rintro e w1 ⟨rfl, rfl⟩
        go_wp2_with fail
        go_ret
        exact ⟨rfl, bel_alloc (Below.refl _ _) _⟩
      · rw [decide_eq_false h7, Bool.false_or] at hb
        have hbe : (of_ == 1) = b := by rw [← hb, Bool.eq_iff_iff]; simp
        clear hb
        have HE := Lib.hid hbe
        clear hbe
        go_enter Try.func67, Try.ntmps67
        go_wp2_with fail
        refine (HG.out _).mono ?_
        rintro e w1 ⟨rfl, rfl⟩
        go_wp2_with fail
        go_ret
        exact ⟨by rw [← HE.out]; rfl, bel_alloc (Below.refl _ _) _⟩
end Go.Proofs.Ytdanfeldbdooeaa
