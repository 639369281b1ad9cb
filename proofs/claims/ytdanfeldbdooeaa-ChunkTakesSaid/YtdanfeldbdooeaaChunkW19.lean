/-
  WALKS of layer 20: Ints, of two rows that read alike.
-/
import Derived.Test.YtdanfeldbdooeaaChunkW11
import Derived.BigQuiet
set_option linter.unusedVariables false
set_option linter.unusedSimpArgs false
namespace Go.Proofs.Ytdanfeldbdooeaa
open Go.RowKit

set_option maxHeartbeats 1000000 in
theorem ints_same (l : List Int) (v u : Value) (w : World) (hv : Row iCs 1 w v l) (hu : Row iCs 1 w u l) (hl : l.length ≤ 1000000) :
    Calls Try.prog 40 #[v, u] w fun e w' => e = .returned (.bool true) ∧ Below w.heap.size w w' := by
  obtain ⟨A, c, rfl, hc, hA⟩ := hv
  obtain ⟨A', c', rfl, hc', hA'⟩ := hu
  have HA := Lib.hid hA
  have HA' := Lib.hid hA'
  clear hA hA'
  obtain ⟨n, hn⟩ : ∃ n, l.length = n := ⟨_, rfl⟩
  rw [hn] at hl hc hc' ⊢
  have Hn := Lib.hid hn
  clear hn
  go_enter Try.func40, Try.ntmps40
  go_wp2_with fail
  go_loopw [13] (fun i wr => ∃ k m : Nat, k ≤ n ∧ i = .int .i64 k ∧ wr = w.drewN m) (fun i _ => n - (intOf i).toNat)
  case atStart => exact ⟨0, 0, Nat.zero_le _, rfl, rfl⟩
  case round =>
    obtain ⟨k, m, hk, rfl, rfl⟩ := hrel
    by_cases hlt : k < n
    · obtain ⟨x, hi⟩ : ∃ x, l[k]? = some x := ⟨_, List.getElem?_eq_getElem (by rw [Hn.out]; exact hlt)⟩
      obtain ⟨b, o, rfl, hb, hX⟩ := HA.out (by rw [Hn.out]; omega)
      obtain ⟨b', o', rfl, hb', hX'⟩ := HA'.out (by rw [Hn.out]; omega)
      have c0 := hX k x 0 _ hi rfl
      have d0 := hX' k x 0 _ hi rfl
      clear hX hX' hi
      simp only [Nat.add_zero, Nat.mul_one] at c0 d0
      go_wp2_with fail
      go_quiet (fail)
      go_wp2_with fail
      go_roundw
      case rel => exact ⟨k + 1, _, by omega, by go_num, rfl⟩
      case measure => simp [intOf]; omega
    · go_wp2_with fail
      go_ret
      exact ⟨rfl, bDrewN (Below.refl _ _)⟩
end Go.Proofs.Ytdanfeldbdooeaa
