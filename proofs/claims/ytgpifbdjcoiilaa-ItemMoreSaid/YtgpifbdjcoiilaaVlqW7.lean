/-
  WALKS of layer 2: the reference's Text and Folded; short.
-/
import Derived.Test.YtgpifbdjcoiilaaVlqW6
import Derived.Lib.Strings
namespace Go.Proofs.Ytgpifbdjcoiilaa
open Go.RowKit

set_option maxHeartbeats 400000 in
theorem rtext_no (s : ByteArray) (w : World) (h : 4096 < s.size) (hs : s.size ≤ 9223372036854775807) :
    Calls Try.prog 32 #[.string s] w fun e w' => e = .returned (.tuple #[.string ⟨#[]⟩, .int .i64 2]) ∧ w = w' := by
  go_enter Try.func32, Try.ntmps32
  go_wp2_with fail
  go_ret2
  exact ⟨rfl, rfl⟩
set_option maxHeartbeats 400000 in
theorem rtext_yes (s : ByteArray) (w : World) (h : s.size ≤ 4096) :
    Calls Try.prog 32 #[.string s] w fun e w' => e = .returned (.tuple #[.string (digS s.size ++ s), .int .i64 0]) ∧ Below w.heap.size w w' := by
  have hc := cnt_le (n := s.size) (by omega)
  have hd : (digS s.size).size ≤ 10 := by rw [digS_size, dig_length]; omega
  have hadd := fun W => run_string_add_sum (P := Try.prog) W (digS s.size) s (by omega)
  clear hc hd
  go_enter Try.func32, Try.ntmps32
  go_wp2_with fail
  refine (digits_any _ _ (by omega) (by omega)).mono ?_
  rintro e w1 ⟨rfl, hb1⟩
  rw [Int.toNat_natCast]
  go_wp2_with fail
  go_ret2
  exact ⟨rfl, hb1⟩

theorem ret1 {k : IntKind} {a b : Int} (h : a = b) : Ending.returned (.int k a) = .returned (.int k b) := by rw [h]
set_option maxHeartbeats 400000 in
theorem folded_any (n : Int) (w : World) (h0 : -9223372036854775808 ≤ n) (h1 : n ≤ 9223372036854775807) :
    Calls Try.prog 33 #[.int .i64 n] w fun e w' => e = .returned (.int .u64 (zz n)) ∧ w = w' := by
  by_cases h : 0 ≤ n
  · have e : (zz n : Int) = n * 2 := by unfold zz; rw [if_pos h]; omega
    have E := Lib.hid e
    clear e
    go_enter Try.func33, Try.ntmps33
    go_wp2_with fail
    go_ret
    exact ⟨ret1 E.out.symm, rfl⟩
  · have e : (zz n : Int) = -(n + 1) * 2 + 1 := by unfold zz; rw [if_neg h]; omega
    have E := Lib.hid e
    clear e
    have hm : IntKind.u64.wrap (-(n + 1)) = -(n + 1) := by rw [IntKind.wrap_u64]; omega
    go_enter Try.func33, Try.ntmps33
    go_wp2_with fail
    go_ret
    exact ⟨ret1 (by rw [E.out]), rfl⟩

set_option maxHeartbeats 400000 in
theorem short_any (s : ByteArray) (w : World) (hs : s.size ≤ 9223372036854775807) :
    Calls Try.prog 21 #[.string s] w fun e w' => e = .returned (.string (if 6000 < s.size then s.extract 0 6000 else s)) ∧ w = w' := by
  by_cases h : 6000 < s.size
  · rw [if_pos h]
    go_enter Try.func21, Try.ntmps21
    go_wp2_with fail
    go_ret
    exact ⟨rfl, rfl⟩
  · rw [if_neg h]
    go_enter Try.func21, Try.ntmps21
    go_wp2_with fail
    go_ret
    exact ⟨rfl, rfl⟩


/-- What Text answers. -/
def txtR (s : ByteArray) : ByteArray × Int := if 4096 < s.size then (⟨#[]⟩, 2) else (digS s.size ++ s, 0)
theorem textS_any (s : ByteArray) (w : World) (t : ByteArray) (e0 : Int) (hs : s.size ≤ 9223372036854775807) (hr : txtR s = (t, e0)) :
    Calls Try.prog 26 #[.string s] w fun e w' => e = .returned (.tuple #[.string t, .int .i64 e0]) ∧ Below w.heap.size w w' := by
  unfold txtR at hr
  by_cases h : 4096 < s.size
  · rw [if_pos h] at hr
    simp only [Prod.mk.injEq] at hr
    obtain ⟨rfl, rfl⟩ := hr
    exact (textS_no s w h hs).mono fun e w' ⟨he, hw⟩ => ⟨he, hw ▸ Below.refl _ _⟩
  · rw [if_neg h] at hr
    simp only [Prod.mk.injEq] at hr
    obtain ⟨rfl, rfl⟩ := hr
    exact textS_yes s w (by omega)
theorem rtext_any (s : ByteArray) (w : World) (t : ByteArray) (e0 : Int) (hs : s.size ≤ 9223372036854775807) (hr : txtR s = (t, e0)) :
    Calls Try.prog 32 #[.string s] w fun e w' => e = .returned (.tuple #[.string t, .int .i64 e0]) ∧ Below w.heap.size w w' := by
  unfold txtR at hr
  by_cases h : 4096 < s.size
  · rw [if_pos h] at hr
    simp only [Prod.mk.injEq] at hr
    obtain ⟨rfl, rfl⟩ := hr
    exact (rtext_no s w h hs).mono fun e w' ⟨he, hw⟩ => ⟨he, hw ▸ Below.refl _ _⟩
  · rw [if_neg h] at hr
    simp only [Prod.mk.injEq] at hr
    obtain ⟨rfl, rfl⟩ := hr
    exact rtext_yes s w (by omega)
end Go.Proofs.Ytgpifbdjcoiilaa
