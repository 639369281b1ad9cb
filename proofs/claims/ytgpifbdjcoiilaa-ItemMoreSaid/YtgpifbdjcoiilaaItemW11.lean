/-
  WALKS: item.Put, refused; the reference's writers of numbers and texts.
-/
import Derived.Test.YtgpifbdjcoiilaaItemW10
namespace Go.Proofs.Ytgpifbdjcoiilaa
open Go.RowKit

set_option maxHeartbeats 1000000 in
set_option maxRecDepth 100000 in
theorem put_item_no (i : It) (w : World) (hR : rightI i = false) :
    Calls Try.prog 44 #[itV i] w fun e w' => e = .returned (.tuple #[.string ⟨#[]⟩, .int .i64 1]) ∧ Below w.heap.size w w' := by
  have hA := fun W => right_any i W false hR
  clear hR
  obtain ⟨kind, ek, ea, ev, ma, n, lo, hi, rk, rn, rv⟩ := i
  unfold itV at hA ⊢
  simp only at hA ⊢
  have HR := Lib.hid hA
  clear hA
  go_enter Try.func44, Try.ntmps44
  go_wp2_with fail
  refine (HR.out _).mono ?_
  rintro e w1 ⟨rfl, hb⟩
  have B1 : Below w.heap.size w w1 := (bel_alloc (Below.refl _ _) _).trans (hb.mono (bel_alloc (Below.refl _ _) _).size)
  clear hb
  go_wp2_with fail
  go_ret2
  exact ⟨rfl, B1⟩
theorem r4num (n : Int) (w : World) (d : ByteArray) (h0 : 0 ≤ n) (h1 : n ≤ 9223372036854775807) (hd : digS n.toNat = d) :
    Calls Try.prog 71 #[.int .i64 n] w fun e w' => e = .returned (.string d) ∧ Below w.heap.size w w' := by
  have hw : IntKind.u64.wrap n = n := by rw [IntKind.wrap_u64]; omega
  have HD := Lib.hid (fun W => digits_any n W h0 (by omega))
  rw [hd] at HD
  clear hd h0 h1
  go_enter Try.func71, Try.ntmps71
  go_wp2_with fail
  refine (HD.out _).mono ?_
  rintro e w1 ⟨rfl, hb⟩
  go_wp2_with fail
  go_ret
  exact ⟨rfl, hb⟩
theorem r4whole (n : Int) (w : World) (d : ByteArray) (h0 : -9223372036854775808 ≤ n) (h1 : n ≤ 9223372036854775807) (hd : digS (zz n) = d) :
    Calls Try.prog 73 #[.int .i64 n] w fun e w' => e = .returned (.string d) ∧ Below w.heap.size w w' := by
  obtain ⟨Z, hZ⟩ : ∃ Z : Int, (zz n : Int) = Z := ⟨_, rfl⟩
  have hz := zz_lt h0 h1
  have HF := Lib.hid (fun W => folded_any n W h0 h1)
  rw [hZ] at HF
  have HD := Lib.hid (fun W => digits_any Z W (by omega) (by omega))
  rw [show Z.toNat = zz n by omega, hd] at HD
  clear hd h0 h1 hz hZ
  go_enter Try.func73, Try.ntmps73
  go_wp2_with fail
  refine (HF.out _).mono ?_
  rintro e w1 ⟨rfl, rfl⟩
  go_wp2_with fail
  refine (HD.out _).mono ?_
  rintro e w1 ⟨rfl, hb⟩
  go_wp2_with fail
  go_ret
  exact ⟨rfl, hb⟩
theorem r4text (k : ByteArray) (w : World) (d : ByteArray) (hk : k.size ≤ 16) (hd : digS k.size ++ k = d) :
    Calls Try.prog 72 #[.string k] w fun e w' => e = .returned (.string d) ∧ Below w.heap.size w w' := by
  obtain ⟨q, hq⟩ : ∃ q, digS k.size = q := ⟨_, rfl⟩
  have hqs : q.size ≤ 10 := by rw [← hq]; exact dig10 (by omega)
  have HD := Lib.hid (fun W => r4num (k.size : Int) W q (by omega) (by omega) (by rw [Int.toNat_natCast, hq]))
  rw [hq] at hd
  have Hd := Lib.hid hd
  clear hq hd
  go_enter Try.func72, Try.ntmps72
  go_wp2_with fail
  refine (HD.out _).mono ?_
  rintro e w1 ⟨rfl, hb⟩
  go_wp2_with fail
  go_ret
  rw [Hd.out]
  exact ⟨rfl, hb⟩
end Go.Proofs.Ytgpifbdjcoiilaa
