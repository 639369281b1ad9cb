/-
  WALKS of layer 2: write and text of vlq.
-/
import Derived.Test.YtgpifbdjcoiilaaVlqPlain
import Derived.Test.YtgpifbdjcoiilaaBuild
import Derived.Test.YtgpifbdjcoiilaaShelf
namespace Go.Proofs.Ytgpifbdjcoiilaa
open Go.RowKit

theorem or128 (x : Int) (h0 : 0 ≤ x) (h1 : x < 256) : bits .or .u8 x 128 = x % 128 + 128 := by
  have h : ∀ i : Fin 256, bits .or .u8 (i.val : Int) 128 = (i.val : Int) % 128 + 128 := by decide +kernel
  have := h ⟨x.toNat, by omega⟩
  simp only [Int.toNat_of_nonneg h0] at this; exact this
theorem and127 (x : Int) (h0 : 0 ≤ x) (h1 : x < 256) : bits .and .u8 x 127 = x % 128 := by
  have h : ∀ i : Fin 256, bits .and .u8 (i.val : Int) 127 = (i.val : Int) % 128 := by decide +kernel
  have := h ⟨x.toNat, by omega⟩
  simp only [Int.toNat_of_nonneg h0] at this; exact this
theorem div7i (n : Int) (h : 0 ≤ n) (k : Nat) : n / 2 ^ (7 * k) = ((n.toNat / 128 ^ k : Nat) : Int) := by
  rw [← div7, Int.toNat_of_nonneg h]
theorem up_byte (n : Int) (h : 0 ≤ n) (k : Nat) : bits .or .u8 (n / 2 ^ (7 * k) % 256) 128 = ((UInt8.ofNat (n.toNat / 128 ^ k % 128 + 128)).toNat : Int) := by
  rw [div7i n h, or128 _ (by omega) (by omega), u8_ofNat_toNat (by omega)]; push_cast; omega
theorem low_byte (n : Int) (h : 0 ≤ n) : bits .and .u8 (n % 256) 127 = ((lowd n.toNat).toNat : Int) := by
  rw [and127 _ (by omega) (by omega), lowd, u8_ofNat_toNat (by omega)]; omega

/-- What holds at the head of the second loop of write. -/
def WrRel (n : Nat) (l : List UInt8) (B b : Nat) (w0 : World) (i : Value) (wr : World) : Prop :=
  ∃ (k : Nat) (pre : List UInt8), k ≤ cnt n ∧ i = .int .i64 (7 * k) ∧ pre ++ ups n k = ups n (cnt n) ∧ Lib.IsBuilder 92 5 B b (Lib.byteCells (l ++ pre)) wr ∧ Below B w0 wr

theorem byteCells_snoc (l : List UInt8) (c : UInt8) : Lib.byteCells l ++ [.int .u8 (c.toNat : Int)] = Lib.byteCells (l ++ [c]) := by simp [Lib.byteCells]
theorem byteCells_len (l : List UInt8) : (Lib.byteCells l).length = l.length := by simp [Lib.byteCells]

set_option maxHeartbeats 1000000 in
theorem write_any (n : Int) (l : List UInt8) (B b : Nat) (w : World) (h0 : 0 ≤ n) (h1 : n < 18446744073709551616) (h : Lib.IsBuilder 92 5 B b (Lib.byteCells l) w) (hlen : l.length + 10 ≤ 140737488355328) (hBw : B ≤ w.heap.size) :
    Calls Try.prog 74 #[.int .u64 n, .func (.func 75) #[.pointer (some ⟨b, 0, none⟩)] #[]] w fun e w' => e = .returned (.tuple #[]) ∧ Lib.IsBuilder 92 5 B b (Lib.byteCells (l ++ dig n.toNat)) w' ∧ Below B w w' := by
  have hn : n.toNat < 18446744073709551616 := by omega
  have hc9 := cnt_le hn
  obtain ⟨N, hN⟩ : ∃ N, N = n.toNat := ⟨_, rfl⟩
  rw [← hN] at hc9 hn ⊢
  have HN := Lib.hid hN
  have Hn := Lib.hid hn
  clear hn hN
  go_enter Try.func74, Try.ntmps74
  go_wp2_with fail
  go_loop [4] (fun i => ∃ k : Nat, k ≤ cnt N ∧ i = .int .i64 (7 * k)) (fun i => (100 - intOf i).toNat)
  case atStart => exact ⟨0, Nat.zero_le _, rfl⟩
  case round =>
    obtain ⟨k, hk, rfl⟩ := hrel
    have Hci := Lib.hid (cnt_iff Hn.out k)
    have Hdiv := Lib.hid (div7i n h0 k)
    go_wp2_with fail
    · have h127 : 127 < n / 2 ^ (7 * k) := by assumption
      rw [Hdiv.out, ← HN.out] at h127
      have := Hci.out
      go_round
      case rel => exact ⟨k + 1, by omega, by go_num⟩
      case measure => simp [intOf]; omega
    · have h127 : n / 2 ^ (7 * k) ≤ 127 := by assumption
      rw [Hdiv.out, ← HN.out] at h127
      have hke : k = cnt N := by have := Hci.out; omega
      have Hke := Lib.hid hke
      clear hke
      go_loopw [4] (fun i wr => WrRel N l B b w i wr) (fun i _ => (intOf i).toNat)
      case atStart => exact ⟨k, [], hk, rfl, by rw [Hke.out]; rfl, by simpa using h, Below.refl _ _⟩
      case round =>
        obtain ⟨j, pre, hj, rfl, hpre, hbld, hbel⟩ := hrel
        have hpl : pre.length ≤ cnt N := by
          have := congrArg List.length hpre
          simp [ups_length] at this; omega
        have Hpre := Lib.hid hpre
        clear hpre
        have hsz := hbel.size
        by_cases hj0 : j = 0
        · subst hj0
          go_wp2_with fail
          refine (writeByte_any B b _ _ _ hbld (by rw [byteCells_len]; simp; omega) (by omega)).mono ?_
          rintro e w1 ⟨rfl, hb1, hbel1⟩
          go_wp2_with fail
          go_end0
          rw [low_byte n h0, byteCells_snoc, ← HN.out] at hb1
          refine ⟨rfl, ?_, hbel.trans hbel1⟩
          have hp := Hpre.out
          simp only [ups, List.append_nil] at hp
          simpa [dig, hp] using hb1
        · obtain ⟨i, rfl⟩ : ∃ i, j = i + 1 := ⟨j - 1, by omega⟩
          have Ub := Lib.hid (up_byte n h0 (i + 1))
          go_wp2_with fail
          refine (writeByte_any B b _ _ _ hbld (by rw [byteCells_len]; simp; omega) (by omega)).mono ?_
          rintro e w1 ⟨rfl, hb1, hbel1⟩
          go_wp2_with fail
          go_roundw
          case rel =>
            rw [Ub.out, byteCells_snoc, ← HN.out] at hb1
            exact ⟨i, pre ++ [UInt8.ofNat (N / 128 ^ (i + 1) % 128 + 128)], by omega, by go_num, by rw [← Hpre.out]; simp [ups], by simpa using hb1, hbel.trans hbel1⟩
          case measure => simp [intOf]; omega
end Go.Proofs.Ytgpifbdjcoiilaa
