/-
  WALKS: keys, events, results.
-/
import Derived.Test.YtenpgkkefielfaaItemPlain
import Derived.Test.YtenpgkkefielfaaRowsK
import Derived.Laws.StructEq
import Derived.RegionTactic
import Derived.Outline
namespace Go.Proofs.Ytenpgkkefielfaa
open Go.RowKit

theorem key_any (s : ByteArray) (w : World) (b : Bool) (hb : keyB s = b) : Calls Try.prog 77 #[.string s] w fun e w' => e = .returned (.bool b) ∧ w = w' := by
  unfold keyB at hb
  by_cases h0 : s = ⟨#[]⟩
  · subst h0
    have hb' : b = false := by rw [← hb]; rfl
    subst hb'
    clear hb
    go_enter Try.func77, Try.ntmps77
    go_wp2_with fail
    go_ret
    exact ⟨rfl, rfl⟩
  · have hs : 0 < s.size := by
      rcases Nat.eq_zero_or_pos s.size with h | h
      · exact absurd (ByteArray.size_eq_zero_iff.1 h) h0
      · exact h
    have h1 : s.toList.isEmpty = false := by
      rw [ByteArray.toList_eq]
      rcases h : s.data.toList with _ | ⟨x, l⟩
      · have h2 : s.data.toList.length = s.size := Array.length_toList
        rw [h] at h2; simp at h2; omega
      · rfl
    have hb' : b = decide ((s.size : Int) ≤ 16) := by rw [← hb, decide_eq_true (by omega), Bool.true_and]; exact decide_eq_decide.2 (by omega)
    have Hb := Lib.hid hb'
    clear hb hb' h0
    go_enter Try.func77, Try.ntmps77
    go_wp2_with fail
    go_ret
    rw [Hb.out]
    exact ⟨rfl, rfl⟩
theorem rkey_any (s : ByteArray) (w : World) (b : Bool) (hb : keyB s = b) : Calls Try.prog 70 #[.string s] w fun e w' => e = .returned (.bool b) ∧ w = w' := by
  unfold keyB at hb
  by_cases h0 : 0 < s.size
  · have h1 : decide ((1 : Int) ≤ (s.size : Int)) = true := by simp; omega
    have hb' : b = decide ((s.size : Int) ≤ 16) := by rw [← hb, decide_eq_true (by omega), Bool.true_and]; exact decide_eq_decide.2 (by omega)
    have Hb := Lib.hid hb'
    clear hb hb' h0
    go_enter Try.func70, Try.ntmps70
    go_wp2_with fail
    go_ret
    rw [Hb.out]
    exact ⟨rfl, rfl⟩
  · have h1 : decide ((1 : Int) ≤ (s.size : Int)) = false := by simp; omega
    have hb' : b = false := by rw [← hb]; simp; omega
    subst hb'
    clear hb
    go_enter Try.func70, Try.ntmps70
    go_wp2_with fail
    go_ret
    exact ⟨rfl, rfl⟩
theorem event_any (k : ByteArray) (a v : Int) (w : World) (b : Bool) (hb : evB k a = b) : Calls Try.prog 74 #[.agg #[.string k, .int .i64 a, .int .i64 v]] w fun e w' => e = .returned (.bool b) ∧ w' = w.alloc (.cells #[.string k, .int .i64 a, .int .i64 v] 37) := by
  unfold evB at hb
  obtain ⟨q, hq⟩ : ∃ q, keyB k = q := ⟨_, rfl⟩
  rw [hq] at hb
  have Hq := Lib.hid hq
  clear hq
  go_enter Try.func74, Try.ntmps74
  go_wp2_with fail
  refine (key_any k _ q Hq.out).mono ?_
  rintro e w' ⟨rfl, rfl⟩
  cases q with
  | false =>
    rw [Bool.false_and] at hb
    subst hb
    go_wp2_with fail
    go_ret
    exact ⟨rfl, rfl⟩
  | true =>
    rw [Bool.true_and] at hb
    by_cases h0 : 0 ≤ a
    rotate_left
    · rw [decide_eq_false h0, Bool.false_and] at hb
      subst hb
      go_wp2_with fail
      go_ret
      exact ⟨rfl, rfl⟩
    rw [decide_eq_true h0, Bool.true_and] at hb
    subst hb
    go_wp2_with fail
    go_ret
    exact ⟨rfl, rfl⟩
theorem revent_any (k : ByteArray) (a v : Int) (w : World) (b : Bool) (hb : evB k a = b) : Calls Try.prog 68 #[.agg #[.string k, .int .i64 a, .int .i64 v]] w fun e w' => e = .returned (.bool b) ∧ w' = w.alloc (.cells #[.string k, .int .i64 a, .int .i64 v] 37) := by
  unfold evB at hb
  obtain ⟨q, hq⟩ : ∃ q, keyB k = q := ⟨_, rfl⟩
  rw [hq] at hb
  have Hq := Lib.hid hq
  clear hq
  go_enter Try.func68, Try.ntmps68
  go_wp2_with fail
  refine (rkey_any k _ q Hq.out).mono ?_
  rintro e w' ⟨rfl, rfl⟩
  cases q with
  | false =>
    rw [Bool.false_and] at hb
    subst hb
    go_wp2_with fail
    go_ret
    exact ⟨rfl, rfl⟩
  | true =>
    rw [Bool.true_and] at hb
    by_cases h0 : 0 ≤ a
    rotate_left
    · rw [decide_eq_false h0, Bool.false_and] at hb
      subst hb
      go_wp2_with fail
      go_ret
      exact ⟨rfl, rfl⟩
    rw [decide_eq_true h0, Bool.true_and] at hb
    subst hb
    go_wp2_with fail
    go_ret
    exact ⟨rfl, rfl⟩
theorem result_any (lo hi : Int) (k : ByteArray) (n v : Int) (w : World) (b : Bool) (hb : resB lo hi k n = b) : Calls Try.prog 75 #[.agg #[.int .i64 lo, .int .i64 hi, .string k, .int .i64 n, .int .i64 v]] w fun e w' => e = .returned (.bool b) ∧ w' = w.alloc (.cells #[.int .i64 lo, .int .i64 hi, .string k, .int .i64 n, .int .i64 v] 41) := by
  unfold resB at hb
  obtain ⟨q, hq⟩ : ∃ q, keyB k = q := ⟨_, rfl⟩
  rw [hq] at hb
  have Hq := Lib.hid hq
  clear hq
  go_enter Try.func75, Try.ntmps75
  go_wp2_with fail
  refine (key_any k _ q Hq.out).mono ?_
  rintro e w' ⟨rfl, rfl⟩
  cases q with
  | false =>
    rw [Bool.false_and] at hb
    subst hb
    go_wp2_with fail
    go_ret
    exact ⟨rfl, rfl⟩
  | true =>
    rw [Bool.true_and] at hb
    by_cases h0 : 0 ≤ lo
    rotate_left
    · rw [decide_eq_false h0, Bool.false_and] at hb
      subst hb
      go_wp2_with fail
      go_ret
      exact ⟨rfl, rfl⟩
    rw [decide_eq_true h0, Bool.true_and] at hb
    by_cases h1 : lo < hi
    rotate_left
    · rw [decide_eq_false h1, Bool.false_and] at hb
      subst hb
      go_wp2_with fail
      go_ret
      exact ⟨rfl, rfl⟩
    rw [decide_eq_true h1, Bool.true_and] at hb
    by_cases h2 : hi ≤ 1099511627776
    rotate_left
    · rw [decide_eq_false h2, Bool.false_and] at hb
      subst hb
      go_wp2_with fail
      go_ret
      exact ⟨rfl, rfl⟩
    rw [decide_eq_true h2, Bool.true_and] at hb
    by_cases h3 : 1 ≤ n
    rotate_left
    · rw [decide_eq_false h3, Bool.false_and] at hb
      subst hb
      go_wp2_with fail
      go_ret
      exact ⟨rfl, rfl⟩
    rw [decide_eq_true h3, Bool.true_and] at hb
    subst hb
    go_wp2_with fail
    go_ret
    exact ⟨rfl, rfl⟩
theorem rresult_any (lo hi : Int) (k : ByteArray) (n v : Int) (w : World) (b : Bool) (hb : resB lo hi k n = b) : Calls Try.prog 58 #[.agg #[.int .i64 lo, .int .i64 hi, .string k, .int .i64 n, .int .i64 v]] w fun e w' => e = .returned (.bool b) ∧ w' = w.alloc (.cells #[.int .i64 lo, .int .i64 hi, .string k, .int .i64 n, .int .i64 v] 41) := by
  unfold resB at hb
  obtain ⟨q, hq⟩ : ∃ q, keyB k = q := ⟨_, rfl⟩
  rw [hq] at hb
  have Hq := Lib.hid hq
  clear hq
  go_enter Try.func58, Try.ntmps58
  go_wp2_with fail
  refine (rkey_any k _ q Hq.out).mono ?_
  rintro e w' ⟨rfl, rfl⟩
  cases q with
  | false =>
    rw [Bool.false_and] at hb
    subst hb
    go_wp2_with fail
    go_ret
    exact ⟨rfl, rfl⟩
  | true =>
    rw [Bool.true_and] at hb
    by_cases h0 : 0 ≤ lo
    rotate_left
    · rw [decide_eq_false h0, Bool.false_and] at hb
      subst hb
      go_wp2_with fail
      go_ret
      exact ⟨rfl, rfl⟩
    rw [decide_eq_true h0, Bool.true_and] at hb
    by_cases h1 : lo < hi
    rotate_left
    · rw [decide_eq_false h1, Bool.false_and] at hb
      subst hb
      go_wp2_with fail
      go_ret
      exact ⟨rfl, rfl⟩
    rw [decide_eq_true h1, Bool.true_and] at hb
    by_cases h2 : hi ≤ 1099511627776
    rotate_left
    · rw [decide_eq_false h2, Bool.false_and] at hb
      subst hb
      go_wp2_with fail
      go_ret
      exact ⟨rfl, rfl⟩
    rw [decide_eq_true h2, Bool.true_and] at hb
    by_cases h3 : 1 ≤ n
    rotate_left
    · rw [decide_eq_false h3, Bool.false_and] at hb
      subst hb
      go_wp2_with fail
      go_ret
      exact ⟨rfl, rfl⟩
    rw [decide_eq_true h3, Bool.true_and] at hb
    subst hb
    go_wp2_with fail
    go_ret
    exact ⟨rfl, rfl⟩
end Go.Proofs.Ytenpgkkefielfaa
