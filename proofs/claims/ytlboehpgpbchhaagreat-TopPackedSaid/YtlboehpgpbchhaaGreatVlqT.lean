/-
  WALKS: the texts VlqW1, VlqW2, VlqW3, VlqW5, VlqW6, VlqW7, but for what speaks of functions that are not here (progonly.py).
-/
import Derived.Test.YtlboehpgpbchhaaGreatVlqPlain
import Derived.Test.YtlboehpgpbchhaaGreatBuild
import Derived.Test.YtlboehpgpbchhaaGreatShelfT
import Derived.Lib.Zigzag
import Derived.Outline
import Derived.Lib.Strings
set_option linter.unusedVariables false
set_option linter.unusedSimpArgs false
namespace Go.Proofs.YtlboehpgpbchhaaGreat
open Go.RowKit
theorem or128 (x : Int) (h0 : 0 ≤ x) (h1 : x < 256) : bits .or .u8 x 128 = x % 128 + 128 := by
  have h : ∀ i : Fin 256, bits .or .u8 (i.val : Int) 128 = (i.val : Int) % 128 + 128 := by decide +kernel
  have := h ⟨x.toNat, by omega⟩
  simp only [Int.toNat_of_nonneg h0] at this; exact this
theorem and127 (x : Int) (h0 : 0 ≤ x) (h1 : x < 256) : bits .and .u8 x 127 = x % 128 := by
  have h : ∀ i : Fin 256, bits .and .u8 (i.val : Int) 127 = (i.val : Int) % 128 := by decide +kernel
  have := h ⟨x.toNat, by omega⟩
  simp only [Int.toNat_of_nonneg h0] at this; exact this
theorem div7i (n : Int) (h : 0 ≤ n) (k : Nat) : n / 2 ^ (7 * k) = ((n.toNat / 128 ^ k : Nat) : Int) := by
  rw [← div7, Int.toNat_of_nonneg h]
theorem up_byte (n : Int) (h : 0 ≤ n) (k : Nat) : bits .or .u8 (n / 2 ^ (7 * k) % 256) 128 = ((UInt8.ofNat (n.toNat / 128 ^ k % 128 + 128)).toNat : Int) := by
  rw [div7i n h, or128 _ (by omega) (by omega), u8_ofNat_toNat (by omega)]; push_cast; omega
theorem low_byte (n : Int) (h : 0 ≤ n) : bits .and .u8 (n % 256) 127 = ((lowd n.toNat).toNat : Int) := by
  rw [and127 _ (by omega) (by omega), lowd, u8_ofNat_toNat (by omega)]; omega
/-- What holds at the head of the second loop of write. -/
def WrRel (n : Nat) (l : List UInt8) (B b : Nat) (w0 : World) (i : Value) (wr : World) : Prop :=
  ∃ (k : Nat) (pre : List UInt8), k ≤ cnt n ∧ i = .int .i64 (7 * k) ∧ pre ++ ups n k = ups n (cnt n) ∧ Lib.IsBuilder 176 5 B b (Lib.byteCells (l ++ pre)) wr ∧ Below B w0 wr
theorem byteCells_snoc (l : List UInt8) (c : UInt8) : Lib.byteCells l ++ [.int .u8 (c.toNat : Int)] = Lib.byteCells (l ++ [c]) := by simp [Lib.byteCells]
theorem byteCells_len (l : List UInt8) : (Lib.byteCells l).length = l.length := by simp [Lib.byteCells]
set_option maxHeartbeats 1000000 in
theorem write_any (n : Int) (l : List UInt8) (B b : Nat) (w : World) (h0 : 0 ≤ n) (h1 : n < 18446744073709551616) (h : Lib.IsBuilder 176 5 B b (Lib.byteCells l) w) (hlen : l.length + 10 ≤ 140737488355328) (hBw : B ≤ w.heap.size) :
    Calls Tryz.prog 98 #[.int .u64 n, .func (.func 99) #[.pointer (some ⟨b, 0, none⟩)] #[]] w fun e w' => e = .returned (.tuple #[]) ∧ Lib.IsBuilder 176 5 B b (Lib.byteCells (l ++ dig n.toNat)) w' ∧ Below B w w' := by
  have hn : n.toNat < 18446744073709551616 := by omega
  have hc9 := cnt_le hn
  obtain ⟨N, hN⟩ : ∃ N, N = n.toNat := ⟨_, rfl⟩
  rw [← hN] at hc9 hn ⊢
  have HN := Lib.hid hN
  have Hn := Lib.hid hn
  clear hn hN
  go_enter Tryz.func98, Tryz.ntmps98
  go_wp2_with fail
  go_loop [4] (fun i => ∃ k : Nat, k ≤ cnt N ∧ i = .int .i64 (7 * k)) (fun i => (100 - intOf i).toNat)
  case atStart => exact ⟨0, Nat.zero_le _, rfl⟩
  case round =>
    obtain ⟨k, hk, rfl⟩ := hrel
    have Hci := Lib.hid (cnt_iff Hn.out k)
    have Hdiv := Lib.hid (div7i n h0 k)
    go_wp2_with fail
    · have h127 : 127 < n / 2 ^ (7 * k) := by assumption
      rw [Hdiv.out, ← HN.out] at h127
      have := Hci.out
      go_round
      case rel => exact ⟨k + 1, by omega, by go_num⟩
      case measure => simp [intOf]; omega
    · have h127 : n / 2 ^ (7 * k) ≤ 127 := by assumption
      rw [Hdiv.out, ← HN.out] at h127
      have hke : k = cnt N := by have := Hci.out; omega
      have Hke := Lib.hid hke
      clear hke
      go_loopw [4] (fun i wr => WrRel N l B b w i wr) (fun i _ => (intOf i).toNat)
      case atStart => exact ⟨k, [], hk, rfl, by rw [Hke.out]; rfl, by simpa using h, Below.refl _ _⟩
      case round =>
        obtain ⟨j, pre, hj, rfl, hpre, hbld, hbel⟩ := hrel
        have hpl : pre.length ≤ cnt N := by
          have := congrArg List.length hpre
          simp [ups_length] at this; omega
        have Hpre := Lib.hid hpre
        clear hpre
        have hsz := hbel.size
        by_cases hj0 : j = 0
        · subst hj0
          go_wp2_with fail
          refine (writeByte_any B b _ _ _ hbld (by rw [byteCells_len]; simp; omega) (by omega)).mono ?_
          rintro e w1 ⟨rfl, hb1, hbel1⟩
          go_wp2_with fail
          go_end0
          rw [low_byte n h0, byteCells_snoc, ← HN.out] at hb1
          refine ⟨rfl, ?_, hbel.trans hbel1⟩
          have hp := Hpre.out
          simp only [ups, List.append_nil] at hp
          simpa [dig, hp] using hb1
        · obtain ⟨i, rfl⟩ : ∃ i, j = i + 1 := ⟨j - 1, by omega⟩
          have Ub := Lib.hid (up_byte n h0 (i + 1))
          go_wp2_with fail
          refine (writeByte_any B b _ _ _ hbld (by rw [byteCells_len]; simp; omega) (by omega)).mono ?_
          rintro e w1 ⟨rfl, hb1, hbel1⟩
          go_wp2_with fail
          go_roundw
          case rel =>
            rw [Ub.out, byteCells_snoc, ← HN.out] at hb1
            exact ⟨i, pre ++ [UInt8.ofNat (N / 128 ^ (i + 1) % 128 + 128)], by omega, by go_num, by rw [← Hpre.out]; simp [ups], by simpa using hb1, hbel.trans hbel1⟩
          case measure => simp [intOf]; omega
theorem builder_new (w : World) : Lib.IsBuilder 176 5 w.heap.size w.heap.size (Lib.byteCells []) (w.alloc (.cells #[.pointer none, .slice none 0 0] 176)) := by
  refine Or.inl ⟨Nat.le_refl _, .slice none 0 0, ?_, World.ownsRow_nil _ _ _ _, by simp [Value.ownBlock]⟩
  exact heap_alloc_new _ _
/-- The bytes of a number, as a string. -/
def digS (n : Nat) : ByteArray := ⟨(dig n).toArray⟩
theorem digS_size (n : Nat) : (digS n).size = (dig n).length := by simp [digS, ByteArray.size]
set_option maxHeartbeats 1000000 in
theorem text_any (n : Int) (w : World) (h0 : 0 ≤ n) (h1 : n < 18446744073709551616) :
    Calls Tryz.prog 67 #[.int .u64 n] w fun e w' => e = .returned (.string (digS n.toNat)) ∧ Below w.heap.size w w' := by
  go_enter Tryz.func67, Tryz.ntmps67
  go_wp2_with fail
  refine (write_any n [] w.heap.size w.heap.size _ h0 h1 (builder_new w) (by decide) (by simp)).mono ?_
  rintro e w1 ⟨rfl, hb1, hbel1⟩
  have hz := hbel1.size
  go_wp2_with fail
  refine (Tryz.Builder_String_any w.heap.size w.heap.size _ _ hb1 (by simp at hz; omega)).mono ?_
  rintro e w2 ⟨rfl, hbel2⟩
  go_wp2_with fail
  go_ret
  exact ⟨rfl, (((Below.refl _ _).alloc (Nat.le_refl _) _).trans hbel1).trans hbel2⟩
set_option maxHeartbeats 400000 in
theorem put_yes (n : Int) (w : World) (h0 : 0 ≤ n) (h1 : n ≤ 9223372036854775807) :
    Calls Tryz.prog 28 #[.int .i64 n] w fun e w' => e = .returned (.tuple #[.string (digS n.toNat), .int .i64 0]) ∧ Below w.heap.size w w' := by
  go_enter Tryz.func28, Tryz.ntmps28
  go_wp2_with fail
  refine (text_any _ _ (by omega) (by omega)).mono ?_
  rintro e w1 ⟨rfl, hb1⟩
  go_wp2_with fail
  go_ret2
  exact ⟨rfl, hb1⟩
theorem put_no (n : Int) (w : World) (h0 : n < 0) :
    Calls Tryz.prog 28 #[.int .i64 n] w fun e w' => e = .returned (.tuple #[.string ⟨#[]⟩, .int .i64 1]) ∧ w = w' := by
  go_enter Tryz.func28, Tryz.ntmps28
  go_wp2_with fail
  go_ret2
  exact ⟨rfl, rfl⟩
set_option maxHeartbeats 400000 in
theorem textS_no (s : ByteArray) (w : World) (h : 4096 < s.size) (hs : s.size ≤ 9223372036854775807) :
    Calls Tryz.prog 41 #[.string s] w fun e w' => e = .returned (.tuple #[.string ⟨#[]⟩, .int .i64 2]) ∧ w = w' := by
  go_enter Tryz.func41, Tryz.ntmps41
  go_wp2_with fail
  go_ret2
  exact ⟨rfl, rfl⟩
set_option maxHeartbeats 400000 in
theorem textS_yes (s : ByteArray) (w : World) (h : s.size ≤ 4096) :
    Calls Tryz.prog 41 #[.string s] w fun e w' => e = .returned (.tuple #[.string (digS s.size ++ s), .int .i64 0]) ∧ Below w.heap.size w w' := by
  have hc := cnt_le (n := s.size) (by omega)
  have hd : (digS s.size).size ≤ 10 := by rw [digS_size, dig_length]; omega
  have hadd := fun W => run_string_add_sum (P := Tryz.prog) W (digS s.size) s (by omega)
  clear hc hd
  go_enter Tryz.func41, Tryz.ntmps41
  go_wp2_with fail
  refine (text_any _ _ (by omega) (by omega)).mono ?_
  rintro e w1 ⟨rfl, hb1⟩
  rw [Int.toNat_natCast]
  go_wp2_with fail
  go_ret2
  exact ⟨rfl, hb1⟩
/-- The number of 0 or more that stands for any one. -/
def zz (n : Int) : Nat := if 0 ≤ n then (2 * n).toNat else (-2 * n - 1).toNat
theorem zz_lt {n : Int} (h0 : -9223372036854775808 ≤ n) (h1 : n ≤ 9223372036854775807) : zz n < 18446744073709551616 := by
  unfold zz; split <;> omega
theorem zz_xor (n : Int) (h0 : -9223372036854775808 ≤ n) (h1 : n ≤ 9223372036854775807) :
    bits .xor .u64 (IntKind.u64.wrap (wrap64 (n * 2))) (IntKind.u64.wrap (n / 9223372036854775808)) = ((zz n : Nat) : Int) := by
  have e1 : IntKind.u64.wrap (wrap64 (n * 2)) = (n * 2) % 18446744073709551616 := by
    rw [IntKind.wrap_u64]; unfold wrap64; omega
  rw [e1, IntKind.wrap_u64]
  unfold zz
  by_cases h : 0 ≤ n
  · rw [if_pos h]
    obtain ⟨a, rfl⟩ := Int.eq_ofNat_of_zero_le h
    have e2 : ((a : Int) / 9223372036854775808) % 18446744073709551616 = ((0 : Nat) : Int) := by omega
    have e3 : (a : Int) * 2 % 18446744073709551616 = ((2 * a : Nat) : Int) := by omega
    rw [e2, e3, bits_xor_u64_nat _ _ (by omega) (by omega), Nat.xor_zero]; omega
  · rw [if_neg h]
    have e2 : (n / 9223372036854775808) % 18446744073709551616 = ((2 ^ 64 - 1 : Nat) : Int) := by
      have : n / 9223372036854775808 = -1 := by omega
      rw [this]; decide
    have e3 : n * 2 % 18446744073709551616 = (((n * 2 + 18446744073709551616).toNat : Nat) : Int) := by omega
    rw [e2, e3, bits_xor_u64_nat _ _ (by omega) (by decide), Nat.xor_comm, Lib.xor_ones64 _ (by omega)]
    omega
set_option maxHeartbeats 400000 in
theorem signed_any (n : Int) (w : World) (h0 : -9223372036854775808 ≤ n) (h1 : n ≤ 9223372036854775807) :
    Calls Tryz.prog 42 #[.int .i64 n] w fun e w' => e = .returned (.string (digS (zz n))) ∧ Below w.heap.size w w' := by
  go_enter Tryz.func42, Tryz.ntmps42
  go_wp2_with fail
  rw [zz_xor n h0 h1]
  refine (text_any _ _ (by omega) (by have := zz_lt h0 h1; omega)).mono ?_
  rintro e w1 ⟨rfl, hb1⟩
  rw [Int.toNat_natCast]
  go_wp2_with fail
  go_ret
  exact ⟨rfl, hb1⟩
/-- What read answers, as a value. -/
def rdV (most : Nat) (s : ByteArray) (p : Int) : Value := .tuple #[.int .u64 (rdAt most s.data.toList p).1, .int .i64 (rdAt most s.data.toList p).2.1, .int .i64 (rdAt most s.data.toList p).2.2]
theorem len_data (s : ByteArray) : s.data.toList.length = s.size := Array.length_toList
theorem rdV_err {most : Nat} {s : ByteArray} {p : Nat} {E : Int} (hp : p ≤ s.size) (h : rd most (s.data.toList.drop p) 0 0 = (0, 0, E)) (hE : E ≠ 0) :
    rdV most s p = .tuple #[.int .u64 0, .int .i64 0, .int .i64 E] := by
  unfold rdV rdAt
  rw [if_neg (by rw [len_data]; omega)]
  simp [h, hE]
theorem rdV_ok {most : Nat} {s : ByteArray} {p n k : Nat} (hp : p ≤ s.size) (h : rd most (s.data.toList.drop p) 0 0 = (n, k, 0)) :
    rdV most s p = .tuple #[.int .u64 n, .int .i64 (p + k : Int), .int .i64 0] := by
  unfold rdV rdAt
  rw [if_neg (by rw [len_data]; omega)]
  simp [h]
theorem rdV_out {most : Nat} {s : ByteArray} {p : Int} (hp : p < 0 ∨ (s.size : Int) < p) : rdV most s p = .tuple #[.int .u64 0, .int .i64 0, .int .i64 1] := by
  unfold rdV rdAt
  rw [if_pos (by rw [len_data]; omega)]
  rfl
theorem drop_byte (s : ByteArray) (i : Nat) (h : i < s.size) : s.data.toList.drop i = s[i] :: s.data.toList.drop (i + 1) := by
  rw [List.drop_eq_getElem_cons (by rw [len_data]; exact h)]; rfl
theorem rd_step {most : Nat} {s : ByteArray} {p j a : Nat} {c : UInt8} (hlt : p + j < s.size) (hc : s[p + j] = c) (h : rd most (s.data.toList.drop p) 0 0 = rd most (s.data.toList.drop (p + j)) a j) :
    rd most (s.data.toList.drop p) 0 0 = if (j = 0 ∧ c.toNat = 128) ∨ most < a * 128 + c.toNat % 128 then (0, 0, 21)
      else if c.toNat < 128 then (a * 128 + c.toNat % 128, j + 1, 0) else rd most (s.data.toList.drop (p + (j + 1))) (a * 128 + c.toNat % 128) (j + 1) := by
  rw [h, drop_byte s _ hlt, hc]; rfl
theorem wrap_mul128 (a : Nat) (d : Int) (h0 : 0 ≤ d) (h : (a : Int) * 128 + d < 18446744073709551616) : IntKind.u64.wrap ((a : Int) * 128) = (a : Int) * 128 := by
  rw [IntKind.wrap_u64]; omega
theorem or_mul128 (a : Nat) (d : Int) (h0 : 0 ≤ d) (h1 : d < 128) (h : (a : Int) * 128 + d < 18446744073709551616) : bits .or .u64 ((a : Int) * 128) d = (a : Int) * 128 + d :=
  bits_join .u64 64 (by decide) (fun n a b => by rw [IntKind.wrap_u64]; omega) 7 _ _ (by omega) (by omega) (by omega) h0 (by omega) (by omega)
theorem ret3 {k1 k2 k3 : IntKind} {a b c a' b' c' : Int} (h1 : a = a') (h2 : b = b') (h3 : c = c') : Ending.returned (.tuple #[.int k1 a, .int k2 b, .int k3 c]) = .returned (.tuple #[.int k1 a', .int k2 b', .int k3 c']) := by rw [h1, h2, h3]
/-- What holds at the head of read's loop. -/
def RdRel (M : Nat) (s : ByteArray) (p : Nat) (n i : Value) : Prop :=
  ∃ j a : Nat, p + j ≤ s.size ∧ i = .int .i64 ((p : Int) + (j : Int)) ∧ n = .int .u64 a ∧ rd M (s.data.toList.drop p) 0 0 = rd M (s.data.toList.drop (p + j)) a j
set_option maxRecDepth 100000 in
set_option maxHeartbeats 1000000 in
theorem read_in (s : ByteArray) (p : Nat) (most : Int) (w : World) (hp : p ≤ s.size) (hs : s.size ≤ 9223372036854775807) (h0 : 127 ≤ most) (h1 : most < 18446744073709551616) :
    Calls Tryz.prog 81 #[.string s, .int .i64 p, .int .u64 most] w fun e w' => e = .returned (rdV most.toNat s p) ∧ w = w' := by
  have hd1 : decide ((p : Int) < 0) = false := by simp
  have hd2 : decide (s.size < p) = false := by simp; omega
  go_enter Tryz.func81, Tryz.ntmps81
  go_wp2_with fail
  go_loop [9, 10] (fun n i => RdRel most.toNat s p n i) (fun _ i => s.size - (intOf i).toNat)
  case atStart => exact ⟨0, 0, by omega, by simp, rfl, rfl⟩
  case round =>
    obtain ⟨j, a, hj, rfl, rfl, hrd⟩ := hrel
    have Hrd := Lib.hid hrd
    clear hrd
    by_cases hlt : p + j < s.size
    · obtain ⟨c, hc⟩ : ∃ c, s[p + j] = c := ⟨_, rfl⟩
      have Hstep := Lib.hid (rd_step hlt hc Hrd.out)
      have hc0 : (c.toNat : Int) < 256 := by have := c.toNat_lt; omega
      have a127 := and127 (c.toNat : Int) (by omega) hc0
      by_cases hF : (j = 0 ∧ c.toNat = 128) ∨ most.toNat < a * 128 + c.toNat % 128
      · have hE : rd most.toNat (s.data.toList.drop p) 0 0 = (0, 0, 21) := by rw [Hstep.out, if_pos hF]
        have HE := Lib.hid (rdV_err hp hE (by decide))
        clear hE
        have HF := Lib.hid hF
        clear hF
        by_cases h128 : c.toNat = 128
        · have hb : ((c.toNat : Int) == 128) = true := by simp; omega
          have H128 := Lib.hid h128
          clear h128
          go_wp2_with fail
          all_goals first | (exfalso; have := HF.out; have := H128.out; omega) | (go_ret3; exact ⟨(congrArg Ending.returned HE.out).symm, rfl⟩)
        · have hb : ((c.toNat : Int) == 128) = false := by simp; omega
          have hF' : (most - (c.toNat : Int) % 128) / 128 < (a : Int) := by have := HF.out; omega
          go_wp2_with fail
          all_goals first | (exfalso; have := HF.out; omega) | (go_ret3; exact ⟨(congrArg Ending.returned HE.out).symm, rfl⟩)
      · have hF' : (a : Int) ≤ (most - (c.toNat : Int) % 128) / 128 := by omega
        have hle : (a : Int) * 128 + (c.toNat : Int) % 128 ≤ most := by omega
        have hwr := wrap_mul128 a ((c.toNat : Int) % 128) (by omega) (by omega)
        have hor := or_mul128 a ((c.toNat : Int) % 128) (by omega) (by omega) (by omega)
        have hstep := Hstep.out
        rw [if_neg hF] at hstep
        clear Hstep
        have Hstep := Lib.hid hstep
        clear hstep
        have HF := Lib.hid hF
        clear hF
        by_cases h128 : c.toNat = 128
        · have hb : ((c.toNat : Int) == 128) = true := by simp; omega
          have H128 := Lib.hid h128
          clear h128
          go_wp2_with fail
          all_goals first
            | (exfalso; have := HF.out; have := H128.out; omega)
            | (go_round
               case rel =>
                 have hs2 := Hstep.out
                 rw [if_neg (by have := H128.out; omega)] at hs2
                 exact ⟨j + 1, a * 128 + c.toNat % 128, by omega, congrArg (Value.int .i64) (by push_cast; omega), congrArg (Value.int .u64) (by push_cast; omega), hs2⟩
               case measure => simp [intOf]; omega)
        · have hb : ((c.toNat : Int) == 128) = false := by simp; omega
          go_wp2_with fail
          all_goals first
            | (exfalso; omega)
            | (go_round
               case rel =>
                 have hs2 := Hstep.out
                 rw [if_neg (by omega)] at hs2
                 exact ⟨j + 1, a * 128 + c.toNat % 128, by omega, congrArg (Value.int .i64) (by push_cast; omega), congrArg (Value.int .u64) (by push_cast; omega), hs2⟩
               case measure => simp [intOf]; omega)
            | (have hs2 := Hstep.out
               rw [if_pos (by omega)] at hs2
               have fin := rdV_ok hp hs2
               go_ret3
               exact ⟨(ret3 (by push_cast; omega) (by push_cast; omega) rfl).trans (congrArg Ending.returned fin.symm), rfl⟩)
    · have hE : rd most.toNat (s.data.toList.drop p) 0 0 = (0, 0, 20) := by rw [Hrd.out, List.drop_of_length_le (by rw [len_data]; omega)]; rfl
      have HE := Lib.hid (rdV_err hp hE (by decide))
      clear hE
      go_wp2_with fail
      go_ret3
      exact ⟨(congrArg Ending.returned HE.out).symm, rfl⟩
theorem rdAt_facts {most : Nat} {l : List UInt8} {p : Int} {n : Nat} {to er : Int} (h : rdAt most l p = (n, to, er)) (hm : most < 18446744073709551616) :
    (er = 0 ∧ n ≤ most ∧ p < to ∧ to ≤ l.length ∧ 0 ≤ p) ∨ (n = 0 ∧ to = 0 ∧ (er = 1 ∨ er = 20 ∨ er = 21)) := by
  unfold rdAt at h
  by_cases h0 : p < 0 ∨ (l.length : Int) < p
  · rw [if_pos h0] at h
    simp only [Prod.mk.injEq] at h
    right; omega
  · rw [if_neg h0] at h
    have he := rd_err most (l.drop p.toNat) 0 0
    obtain ⟨⟨a, k, e⟩, hr⟩ : ∃ r, rd most (l.drop p.toNat) 0 0 = r := ⟨_, rfl⟩
    rw [hr] at h he
    simp only at h
    by_cases h1 : e = 0
    · subst h1
      simp only [if_pos, Prod.mk.injEq] at h
      obtain ⟨rfl, rfl, rfl⟩ := h
      obtain ⟨_, hk, hl, hn⟩ := rd_is_dig hm hr
      rw [dig_length] at hk
      rw [List.length_drop] at hl
      left; omega
    · rw [if_neg h1] at h
      simp only [Prod.mk.injEq] at h
      simp only [Prod.mk.injEq] at he
      right; omega
theorem read_any (s : ByteArray) (p most : Int) (w : World) (n : Nat) (to er : Int) (hs : s.size ≤ 9223372036854775807) (h0 : 127 ≤ most) (h1 : most < 18446744073709551616) (hr : rdAt most.toNat s.data.toList p = (n, to, er)) :
    Calls Tryz.prog 81 #[.string s, .int .i64 p, .int .u64 most] w fun e w' => e = .returned (.tuple #[.int .u64 n, .int .i64 to, .int .i64 er]) ∧ w = w' := by
  by_cases hp : p < 0 ∨ (s.size : Int) < p
  · have he : rdV most.toNat s p = .tuple #[.int .u64 n, .int .i64 to, .int .i64 er] := by unfold rdV; rw [hr]
    rw [rdV_out hp] at he
    have He := Lib.hid he
    clear he hr
    rcases hp with hp | hp
    · go_enter Tryz.func81, Tryz.ntmps81
      go_wp2_with fail
      go_ret3
      exact ⟨congrArg Ending.returned He.out, rfl⟩
    · by_cases hp0 : p < 0
      · go_enter Tryz.func81, Tryz.ntmps81
        go_wp2_with fail
        go_ret3
        exact ⟨congrArg Ending.returned He.out, rfl⟩
      · have hd : decide (p < 0) = false := by simpa using hp0
        go_enter Tryz.func81, Tryz.ntmps81
        go_wp2_with fail
        go_ret3
        exact ⟨congrArg Ending.returned He.out, rfl⟩
  · obtain ⟨q, rfl⟩ := Int.eq_ofNat_of_zero_le (show 0 ≤ p by omega)
    refine (read_in s q most w (by omega) hs h0 h1).mono ?_
    rintro e w' ⟨rfl, rfl⟩
    exact ⟨by unfold rdV; rw [hr], rfl⟩
/-- What Get answers. -/
def getR (l : List UInt8) (p : Int) : Nat × Int × Int := rdAt 9223372036854775807 l p
/-- What is read of a signed number: which stands for it. -/
def gsR (l : List UInt8) (p : Int) : Nat × Int × Int := rdAt 18446744073709551615 l p
def unz (n : Nat) : Int := if n % 2 = 0 then (n / 2 : Nat) else -((n / 2 : Nat) : Int) - 1
theorem unz_zz (n : Int) : unz (zz n) = n := by
  unfold unz zz
  split <;> split <;> omega
theorem zz_unz (n : Nat) : zz (unz n) = n := by
  unfold unz zz
  split <;> split <;> omega
theorem unz_rng {n : Nat} (h : n < 18446744073709551616) : -9223372036854775808 ≤ unz n ∧ unz n ≤ 9223372036854775807 := by
  unfold unz; split <;> omega
set_option maxHeartbeats 400000 in
theorem get_any (s : ByteArray) (p : Int) (w : World) (n : Nat) (to er : Int) (hs : s.size ≤ 9223372036854775807) (hr : getR s.data.toList p = (n, to, er)) :
    Calls Tryz.prog 55 #[.string s, .int .i64 p] w fun e w' => e = .returned (.tuple #[.int .i64 n, .int .i64 to, .int .i64 er]) ∧ w = w' := by
  have hn : (n : Int) ≤ 9223372036854775807 := by
    rcases rdAt_facts hr (by decide) with h | h <;> omega
  have Hr := Lib.hid hr
  clear hr
  go_enter Tryz.func55, Tryz.ntmps55
  go_wp2_with fail
  refine (read_any s p 9223372036854775807 _ n to er hs (by decide) (by decide) Hr.out).mono ?_
  rintro e w' ⟨rfl, rfl⟩
  go_wp2_with fail
  go_ret3
  exact ⟨rfl, rfl⟩
theorem xor_unz (n : Nat) (h : (n : Int) < 18446744073709551616) : bits .xor .i64 ((n : Int) / 2) (wrap64 (-wrap64 (bits .and .u64 (n : Int) 1))) = unz n := by
  rw [Lib.u64_and1 _ (by omega) h]
  unfold unz
  by_cases h2 : n % 2 = 0
  · rw [if_pos h2, show (n : Int) % 2 = 0 by omega]
    have e : wrap64 (-wrap64 0) = 0 := by decide +kernel
    rw [e, show (n : Int) / 2 = ((n / 2 : Nat) : Int) by omega]
    have hx : (BitVec.ofInt 64 ((n / 2 : Nat) : Int) ^^^ BitVec.ofInt 64 0).toNat = n / 2 := by
      rw [show BitVec.ofInt 64 0 = 0#64 by rfl, BitVec.xor_zero, BitVec.ofInt_natCast, BitVec.toNat_ofNat, Nat.mod_eq_of_lt (by omega)]
    show IntKind.i64.wrap (((BitVec.ofInt 64 ((n / 2 : Nat) : Int) ^^^ BitVec.ofInt 64 0).toNat : Nat) : Int) = _
    rw [hx, IntKind.wrap_i64]; omega
  · rw [if_neg h2, show (n : Int) % 2 = 1 by omega]
    have e : wrap64 (-wrap64 1) = -1 := by decide +kernel
    rw [e, show (n : Int) / 2 = ((n / 2 : Nat) : Int) by omega]
    have hc : bits .xor .i64 ((n / 2 : Nat) : Int) (-1) = bits .xor .i64 (-1) ((n / 2 : Nat) : Int) := by
      simp only [bits]; rw [BitVec.xor_comm]
    rw [hc, Lib.i64_not _ (by omega)]
set_option maxHeartbeats 400000 in
theorem gets_any (s : ByteArray) (p : Int) (w : World) (n : Nat) (to er : Int) (hs : s.size ≤ 9223372036854775807) (hr : gsR s.data.toList p = (n, to, er)) :
    Calls Tryz.prog 56 #[.string s, .int .i64 p] w fun e w' => e = .returned (.tuple #[.int .i64 (unz n), .int .i64 to, .int .i64 er]) ∧ w = w' := by
  have hn : (n : Int) < 18446744073709551616 := by
    rcases rdAt_facts hr (by decide) with h | h <;> omega
  have Hr := Lib.hid hr
  clear hr
  obtain ⟨N, hN⟩ : ∃ N : Int, N = n := ⟨_, rfl⟩
  rw [← hN] at hn
  have hN0 : 0 ≤ N := by omega
  have HN := Lib.hid hN
  go_enter Tryz.func56, Tryz.ntmps56
  go_wp2_with fail
  refine (read_any s p 18446744073709551615 _ n to er hs (by decide) (by decide) Hr.out).mono ?_
  rintro e w' ⟨rfl, rfl⟩
  rw [← hN]
  clear hN
  have hx := xor_unz n (by rw [HN.out] at hn; exact hn)
  rw [← HN.out] at hx
  have Hx := Lib.hid hx
  clear hx
  go_wp2_with fail
  go_ret3
  exact ⟨ret3 Hx.out rfl rfl, rfl⟩
/-- What GetText answers. -/
def gtR (s : ByteArray) (p : Int) : ByteArray × Int × Int :=
  match getR s.data.toList p with
  | (n, to, er) => if er ≠ 0 then (⟨#[]⟩, 0, er) else if 4096 < n then (⟨#[]⟩, 0, 2) else if (s.size : Int) < to + n then (⟨#[]⟩, 0, 20) else (s.extract to.toNat (to.toNat + n), to + n, 0)
theorem retS {x x' : ByteArray} {a b a' b' : Int} (h0 : x = x') (h1 : a = a') (h2 : b = b') : Ending.returned (.tuple #[.string x, .int .i64 a, .int .i64 b]) = .returned (.tuple #[.string x', .int .i64 a', .int .i64 b']) := by rw [h0, h1, h2]
set_option maxHeartbeats 1000000 in
set_option maxRecDepth 100000 in
theorem gett_any (s : ByteArray) (p : Int) (w : World) (x : ByteArray) (m e0 : Int) (hs : s.size ≤ 9223372036854775807) (hr : gtR s p = (x, m, e0)) :
    Calls Tryz.prog 54 #[.string s, .int .i64 p] w fun e w' => e = .returned (.tuple #[.string x, .int .i64 m, .int .i64 e0]) ∧ w = w' := by
  obtain ⟨⟨n, to, er⟩, hg⟩ : ∃ r, getR s.data.toList p = r := ⟨_, rfl⟩
  have hf := rdAt_facts hg (by decide)
  unfold gtR at hr
  rw [hg] at hr
  simp only at hr
  have Hg := Lib.hid hg
  clear hg
  rw [len_data] at hf
  by_cases h1 : er = 0
  · subst h1
    obtain ⟨_, hn, hto, hle, hp0⟩ : (0:Int) = 0 ∧ n ≤ 9223372036854775807 ∧ p < to ∧ to ≤ s.size ∧ 0 ≤ p := by
      rcases hf with h | h
      · exact h
      · omega
    obtain ⟨t, rfl⟩ := Int.eq_ofNat_of_zero_le (show 0 ≤ to by omega)
    rw [if_neg (by simp)] at hr
    by_cases h2 : 4096 < n
    · rw [if_pos h2] at hr
      simp only [Prod.mk.injEq] at hr
      obtain ⟨rfl, rfl, rfl⟩ := hr
      have h2' : (4096 : Int) < n := by omega
      have hn' : (n : Int) ≤ 9223372036854775807 := by omega
      clear hn h2 hf
      go_enter Tryz.func54, Tryz.ntmps54
      go_wp2_with fail
      refine (get_any s p _ n t 0 hs Hg.out).mono ?_
      rintro e w' ⟨rfl, rfl⟩
      go_wp2_with fail
      go_ret3
      exact ⟨rfl, rfl⟩
    · rw [if_neg h2] at hr
      clear hn
      by_cases h3 : (s.size : Int) < t + n
      · rw [if_pos h3] at hr
        simp only [Prod.mk.injEq] at hr
        obtain ⟨rfl, rfl, rfl⟩ := hr
        clear hf
        go_enter Tryz.func54, Tryz.ntmps54
        go_wp2_with fail
        refine (get_any s p _ n t 0 hs Hg.out).mono ?_
        rintro e w' ⟨rfl, rfl⟩
        go_wp2_with fail
        go_ret3
        exact ⟨rfl, rfl⟩
      · rw [if_neg h3] at hr
        simp only [Prod.mk.injEq] at hr
        obtain ⟨rfl, rfl, rfl⟩ := hr
        clear hf
        go_enter Tryz.func54, Tryz.ntmps54
        go_wp2_with fail
        refine (get_any s p _ n t 0 hs Hg.out).mono ?_
        rintro e w' ⟨rfl, rfl⟩
        go_wp2_with fail
        go_ret3
        exact ⟨retS rfl rfl rfl, rfl⟩
  · rw [if_pos h1] at hr
    simp only [Prod.mk.injEq] at hr
    obtain ⟨rfl, rfl, rfl⟩ := hr
    have hb : (er == 0) = false := by simpa using h1
    clear hf h1
    go_enter Tryz.func54, Tryz.ntmps54
    go_wp2_with fail
    refine (get_any s p _ n to er hs Hg.out).mono ?_
    rintro e w' ⟨rfl, rfl⟩
    go_wp2_with fail
    go_ret3
    exact ⟨rfl, rfl⟩
/-- What a byte slice of the call's own holds, as a string. -/
theorem conv_own (w : World) (B g cap n : Nat) (l : List UInt8) (hn : n = l.length) (h : w.ownsRow B 5 1 (.slice (some ⟨g, 0, none⟩) n cap) n (Lib.byteCells l)) :
    (convert 88 9 (.slice (some ⟨g, 0, none⟩) n cap)).run Tryz.prog w = .ok (.string ⟨l.toArray⟩) w := by
  subst hn
  refine run_convert_bytes_back w 88 9 5 ⟨g, 0, none⟩ cap l Tryz.underlying88 Tryz.underlying5 Tryz.underlying9 ?_
  intro j hj
  have hc := h.cellAt j (by omega)
  rw [show (⟨g, 0, none⟩ : Addr).add j = ⟨g, j, none⟩ by cases j <;> simp [Addr.add], hc]
  simp [Lib.byteCells, hj]
/-- What holds at the head of the loop of Digits. -/
def DgRel (N B : Nat) (w0 : World) (m v : Value) (wr : World) : Prop :=
  ∃ (j g cap : Nat), j ≤ cnt N ∧ m = .int .u64 ((N / 128 ^ (j + 1) : Nat) : Int) ∧ v = .slice (some ⟨g, 0, none⟩) (j + 1) cap ∧ wr.ownsRow B 5 1 (.slice (some ⟨g, 0, none⟩) (j + 1) cap) (j + 1) (Lib.byteCells (ups N j ++ [lowd N])) ∧ Below B w0 wr
theorem ret1 {k : IntKind} {a b : Int} (h : a = b) : Ending.returned (.int k a) = .returned (.int k b) := by rw [h]
/-- What Text answers. -/
def txtR (s : ByteArray) : ByteArray × Int := if 4096 < s.size then (⟨#[]⟩, 2) else (digS s.size ++ s, 0)
theorem textS_any (s : ByteArray) (w : World) (t : ByteArray) (e0 : Int) (hs : s.size ≤ 9223372036854775807) (hr : txtR s = (t, e0)) :
    Calls Tryz.prog 41 #[.string s] w fun e w' => e = .returned (.tuple #[.string t, .int .i64 e0]) ∧ Below w.heap.size w w' := by
  unfold txtR at hr
  by_cases h : 4096 < s.size
  · rw [if_pos h] at hr
    simp only [Prod.mk.injEq] at hr
    obtain ⟨rfl, rfl⟩ := hr
    exact (textS_no s w h hs).mono fun e w' ⟨he, hw⟩ => ⟨he, hw ▸ Below.refl _ _⟩
  · rw [if_neg h] at hr
    simp only [Prod.mk.injEq] at hr
    obtain ⟨rfl, rfl⟩ := hr
    exact textS_yes s w (by omega)
end Go.Proofs.YtlboehpgpbchhaaGreat
