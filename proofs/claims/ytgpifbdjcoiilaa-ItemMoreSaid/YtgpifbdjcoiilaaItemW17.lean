/-
  WALKS: the item's reader: number, signed, text.
-/
import Derived.Test.YtgpifbdjcoiilaaItemW16
namespace Go.Proofs.Ytgpifbdjcoiilaa
open Go.RowKit

theorem read_num_skip (g : Nat) (s : ByteArray) (a b : Int) (w : World) (hg : w.heap[g]? = some (.cells #[.string s, .int .i64 a, .int .i64 b] 83 (0, 0))) (hb : b ≠ 0) :
    Calls Try.prog 62 #[.pointer (some ⟨g, 0, none⟩)] w fun e w' => e = .returned (.int .i64 0) ∧ w = w' := by
  have HC := Lib.hid (field_num_skip g s a b w hg hb)
  clear hg hb
  go_enter Try.func62, Try.ntmps62
  go_wp2_with fail
  refine HC.out.mono ?_
  rintro e w' ⟨rfl, rfl⟩
  go_wp2_with fail
  go_ret
  exact ⟨rfl, rfl⟩
theorem read_num_yes (g : Nat) (s : ByteArray) (a : Int) (w : World) (n : Nat) (to : Int) (hg : w.heap[g]? = some (.cells #[.string s, .int .i64 a, .int .i64 0] 83 (0, 0))) (hs : s.size ≤ 140737488355328) (hr : getR s.data.toList a = (n, to, 0)) :
    Calls Try.prog 62 #[.pointer (some ⟨g, 0, none⟩)] w fun e w' => e = .returned (.int .i64 n) ∧ ReadTo g 83 s to 0 w w' := by
  have hc := field_num g s a w n to 0 hg (Nat.le_trans hs (by decide)) hr
  simp only [if_pos] at hc
  have HC := Lib.hid hc
  clear hc hg hs hr
  go_enter Try.func62, Try.ntmps62
  go_wp2_with fail
  refine HC.out.mono ?_
  rintro e w' ⟨rfl, hw⟩
  have HW := Lib.hid hw
  clear hw
  go_wp2_with fail
  go_ret
  exact ⟨rfl, HW.out⟩
theorem read_num_no (g : Nat) (s : ByteArray) (a : Int) (w : World) (n : Nat) (to er : Int) (hg : w.heap[g]? = some (.cells #[.string s, .int .i64 a, .int .i64 0] 83 (0, 0))) (hs : s.size ≤ 140737488355328) (hr : getR s.data.toList a = (n, to, er)) (he : er ≠ 0) :
    Calls Try.prog 62 #[.pointer (some ⟨g, 0, none⟩)] w fun e w' => e = .returned (.int .i64 0) ∧ ReadTo g 83 s a er w w' := by
  have hc := field_num g s a w n to er hg (Nat.le_trans hs (by decide)) hr
  simp only [if_neg he] at hc
  have HC := Lib.hid hc
  clear hc hg hs hr
  go_enter Try.func62, Try.ntmps62
  go_wp2_with fail
  refine HC.out.mono ?_
  rintro e w' ⟨rfl, hw⟩
  have HW := Lib.hid hw
  clear hw
  go_wp2_with fail
  go_ret
  exact ⟨rfl, HW.out⟩
theorem read_sgn_skip (g : Nat) (s : ByteArray) (a b : Int) (w : World) (hg : w.heap[g]? = some (.cells #[.string s, .int .i64 a, .int .i64 b] 83 (0, 0))) (hb : b ≠ 0) :
    Calls Try.prog 63 #[.pointer (some ⟨g, 0, none⟩)] w fun e w' => e = .returned (.int .i64 0) ∧ w = w' := by
  have HC := Lib.hid (field_sgn_skip g s a b w hg hb)
  clear hg hb
  go_enter Try.func63, Try.ntmps63
  go_wp2_with fail
  refine HC.out.mono ?_
  rintro e w' ⟨rfl, rfl⟩
  go_wp2_with fail
  go_ret
  exact ⟨rfl, rfl⟩
theorem read_sgn_yes (g : Nat) (s : ByteArray) (a : Int) (w : World) (n : Nat) (to : Int) (hg : w.heap[g]? = some (.cells #[.string s, .int .i64 a, .int .i64 0] 83 (0, 0))) (hs : s.size ≤ 140737488355328) (hr : gsR s.data.toList a = (n, to, 0)) :
    Calls Try.prog 63 #[.pointer (some ⟨g, 0, none⟩)] w fun e w' => e = .returned (.int .i64 (unz n)) ∧ ReadTo g 83 s to 0 w w' := by
  have hc := field_sgn g s a w n to 0 hg hs hr
  simp only [if_pos] at hc
  have HC := Lib.hid hc
  clear hc hg hs hr
  go_enter Try.func63, Try.ntmps63
  go_wp2_with fail
  refine HC.out.mono ?_
  rintro e w' ⟨rfl, hw⟩
  have HW := Lib.hid hw
  clear hw
  go_wp2_with fail
  go_ret
  exact ⟨rfl, HW.out⟩
theorem read_sgn_no (g : Nat) (s : ByteArray) (a : Int) (w : World) (n : Nat) (to er : Int) (hg : w.heap[g]? = some (.cells #[.string s, .int .i64 a, .int .i64 0] 83 (0, 0))) (hs : s.size ≤ 140737488355328) (hr : gsR s.data.toList a = (n, to, er)) (he : er ≠ 0) :
    Calls Try.prog 63 #[.pointer (some ⟨g, 0, none⟩)] w fun e w' => e = .returned (.int .i64 0) ∧ ReadTo g 83 s a er w w' := by
  have hc := field_sgn g s a w n to er hg hs hr
  simp only [if_neg he] at hc
  have HC := Lib.hid hc
  clear hc hg hs hr
  go_enter Try.func63, Try.ntmps63
  go_wp2_with fail
  refine HC.out.mono ?_
  rintro e w' ⟨rfl, hw⟩
  have HW := Lib.hid hw
  clear hw
  go_wp2_with fail
  go_ret
  exact ⟨rfl, HW.out⟩
theorem read_txt_skip (g : Nat) (s : ByteArray) (a b : Int) (w : World) (hg : w.heap[g]? = some (.cells #[.string s, .int .i64 a, .int .i64 b] 83 (0, 0))) (hb : b ≠ 0) :
    Calls Try.prog 64 #[.pointer (some ⟨g, 0, none⟩)] w fun e w' => e = .returned (.string ⟨#[]⟩) ∧ w = w' := by
  have HC := Lib.hid (field_txt_skip g s a b w hg hb)
  clear hg hb
  go_enter Try.func64, Try.ntmps64
  go_wp2_with fail
  refine HC.out.mono ?_
  rintro e w' ⟨rfl, rfl⟩
  go_wp2_with fail
  go_ret
  exact ⟨rfl, rfl⟩
theorem read_txt_yes (g : Nat) (s : ByteArray) (a : Int) (w : World) (x : ByteArray) (to : Int) (hg : w.heap[g]? = some (.cells #[.string s, .int .i64 a, .int .i64 0] 83 (0, 0))) (hs : s.size ≤ 140737488355328) (hr : gtR s a = (x, to, 0)) :
    Calls Try.prog 64 #[.pointer (some ⟨g, 0, none⟩)] w fun e w' => e = .returned (.string x) ∧ ReadTo g 83 s to 0 w w' := by
  have hc := field_txt g s a w x to 0 hg hs hr
  simp only [if_pos] at hc
  have HC := Lib.hid hc
  clear hc hg hs hr
  go_enter Try.func64, Try.ntmps64
  go_wp2_with fail
  refine HC.out.mono ?_
  rintro e w' ⟨rfl, hw⟩
  have HW := Lib.hid hw
  clear hw
  go_wp2_with fail
  go_ret
  exact ⟨rfl, HW.out⟩
theorem read_txt_no (g : Nat) (s : ByteArray) (a : Int) (w : World) (x : ByteArray) (to er : Int) (hg : w.heap[g]? = some (.cells #[.string s, .int .i64 a, .int .i64 0] 83 (0, 0))) (hs : s.size ≤ 140737488355328) (hr : gtR s a = (x, to, er)) (he : er ≠ 0) :
    Calls Try.prog 64 #[.pointer (some ⟨g, 0, none⟩)] w fun e w' => e = .returned (.string ⟨#[]⟩) ∧ ReadTo g 83 s a er w w' := by
  have hc := field_txt g s a w x to er hg hs hr
  simp only [if_neg he] at hc
  have HC := Lib.hid hc
  clear hc hg hs hr
  go_enter Try.func64, Try.ntmps64
  go_wp2_with fail
  refine HC.out.mono ?_
  rintro e w' ⟨rfl, hw⟩
  have HW := Lib.hid hw
  clear hw
  go_wp2_with fail
  go_ret
  exact ⟨rfl, HW.out⟩
end Go.Proofs.Ytgpifbdjcoiilaa
