/-
  WALKS: the texts SealPlain, SealW1, SealW2, SealW3, SealW4, SealW5, SealW6, but for what speaks of functions that are not here (progonly.py).
-/
import Derived.Test.YtlboehpgpbchhaaGreatVlqLT
import Derived.Test.YtlboehpgpbchhaaGreatFrame
import Derived.Test.YtlboehpgpbchhaaGreatRowsK
import Derived.Lib.Walk
import Derived.Deep.RegionWith
import Derived.Deep.DeepCutAuto
import Derived.Deep.QuietTactic
import Derived.BigQuiet
import Derived.WalkMore
import Derived.Deep.LoopGhost
set_option linter.unusedVariables false
set_option linter.unusedSimpArgs false
namespace Go.Proofs.YtlboehpgpbchhaaGreat.Sel

/-- One bit into the register. -/
def stp (r b : Nat) : Nat := (r * 2 % 4294967296) ^^^ (if r / 2147483648 = b then 0 else 79764919)
/-- A byte's bits, the highest first: j of them. -/
def steps (r c : Nat) : Nat → Nat
  | 0 => r
  | j + 1 => stp (steps r c j) (c / 2 ^ (7 - j) % 2)
/-- As the program does it: the byte is in the register already. -/
def stepsP (x : Nat) : Nat → Nat
  | 0 => x
  | j + 1 => stp (stepsP x j) 0
def crcB (r c : Nat) : Nat := steps r c 8
/-- The register behind bytes, from a register on. -/
def crcL (r : Nat) : List UInt8 → Nat
  | [] => r
  | c :: t => crcL (crcB r c.toNat) t
def crc (l : List UInt8) : Nat := crcL 4294967295 l
theorem crcL_append (l m : List UInt8) : ∀ r, crcL r (l ++ m) = crcL (crcL r l) m := by
  induction l with
  | nil => intro r; rfl
  | cons c t ih => intro r; exact ih _
theorem crc_snoc (l : List UInt8) (c : UInt8) : crc (l ++ [c]) = crcB (crc l) c.toNat := by unfold crc; rw [crcL_append]; rfl
theorem stp_lt (r b : Nat) : stp r b < 4294967296 := by
  unfold stp
  have h1 : r * 2 % 4294967296 < 2 ^ 32 := by omega
  have h2 : (if r / 2147483648 = b then 0 else 79764919) < 2 ^ 32 := by split <;> omega
  exact Nat.xor_lt_two_pow h1 h2
theorem steps_lt {r : Nat} (h : r < 4294967296) (c : Nat) : ∀ j, steps r c j < 4294967296
  | 0 => h
  | _ + 1 => stp_lt _ _
theorem stepsP_lt {x : Nat} (h : x < 4294967296) : ∀ j, stepsP x j < 4294967296
  | 0 => h
  | _ + 1 => stp_lt _ _
theorem crcL_lt (l : List UInt8) : ∀ {r : Nat}, r < 4294967296 → crcL r l < 4294967296 := by
  induction l with
  | nil => intro r h; exact h
  | cons c t ih => intro r h; exact ih (steps_lt h _ 8)
theorem crc_lt (l : List UInt8) : crc l < 4294967296 := crcL_lt l (by decide)
theorem two_mul_xor (a b : Nat) : (a ^^^ b) * 2 % 4294967296 = (a * 2 % 4294967296) ^^^ (b * 2 % 4294967296) := by
  have h : (a ^^^ b) * 2 = (a * 2) ^^^ (b * 2) := by
    have := Nat.shiftLeft_xor_distrib (a := a) (b := b) (i := 1)
    simpa [Nat.shiftLeft_eq] using this
  rw [h]
  exact Nat.xor_mod_two_pow (n := 32)
theorem top_xor (a b : Nat) : (a ^^^ b) / 2147483648 = (a / 2147483648) ^^^ (b / 2147483648) := by
  have := Nat.shiftRight_xor_distrib (a := a) (b := b) (i := 31)
  simpa [Nat.shiftRight_eq_div_pow] using this
theorem bit_cases {r : Nat} (h : r < 4294967296) : r / 2147483648 = 0 ∨ r / 2147483648 = 1 := by omega
/-- The register and the bit, changed together. -/
theorem stp_xor {r x : Nat} (hr : r < 4294967296) (hx : x < 4294967296) (b d : Nat) (hb : b < 2) (hd : d < 2) :
    stp (r ^^^ x) (b ^^^ d) = stp r b ^^^ stp x d := by
  unfold stp
  rw [two_mul_xor, top_xor]
  have k : ∀ p q : Nat, p < 2 → q < 2 → ((if p ^^^ q = b ^^^ d then (0:Nat) else 79764919) = (if p = b then 0 else 79764919) ^^^ (if q = d then 0 else 79764919)) := by
    intro p q hp hq
    rcases (show p = 0 ∨ p = 1 by omega) with rfl | rfl <;> rcases (show q = 0 ∨ q = 1 by omega) with rfl | rfl <;> rcases (show b = 0 ∨ b = 1 by omega) with rfl | rfl <;> rcases (show d = 0 ∨ d = 1 by omega) with rfl | rfl <;> decide
  rw [k _ _ (by omega) (by omega)]
  generalize r * 2 % 4294967296 = A
  generalize x * 2 % 4294967296 = B
  generalize (if r / 2147483648 = b then (0:Nat) else 79764919) = C
  generalize (if x / 2147483648 = d then (0:Nat) else 79764919) = D
  rw [Nat.xor_assoc, Nat.xor_assoc, ← Nat.xor_assoc B, Nat.xor_comm B C, Nat.xor_assoc C]
theorem xor_zero_of (x : Nat) (d : Nat) (h : x / 2147483648 = d) : stp x d = x * 2 % 4294967296 := by
  unfold stp; rw [if_pos h, Nat.xor_zero]
/-- The program's way is the document's. -/
theorem stepsP_eq {r c : Nat} (hr : r < 4294967296) (hc : c < 256) : ∀ j, j ≤ 8 → stepsP (r ^^^ (c * 16777216)) j = steps r c j ^^^ (c * 16777216 * 2 ^ j % 4294967296)
  | 0, _ => by simp only [stepsP, steps, Nat.pow_zero, Nat.mul_one]; rw [Nat.mod_eq_of_lt (by omega)]
  | j + 1, hj => by
    have ih := stepsP_eq hr hc j (by omega)
    have hs := steps_lt hr c j
    have hlt : c * 16777216 * 2 ^ j % 4294967296 < 4294967296 := Nat.mod_lt _ (by decide)
    have htop : c * 16777216 * 2 ^ j % 4294967296 / 2147483648 = c / 2 ^ (7 - j) % 2 := by
      rcases (show j = 0 ∨ j = 1 ∨ j = 2 ∨ j = 3 ∨ j = 4 ∨ j = 5 ∨ j = 6 ∨ j = 7 by omega) with rfl | rfl | rfl | rfl | rfl | rfl | rfl | rfl <;> simp <;> omega
    simp only [stepsP, steps]
    rw [ih]
    have hb : c / 2 ^ (7 - j) % 2 < 2 := Nat.mod_lt _ (by decide)
    have hx := stp_xor hs hlt (c / 2 ^ (7 - j) % 2) (c / 2 ^ (7 - j) % 2) hb hb
    rw [Nat.xor_self] at hx
    rw [hx, xor_zero_of _ _ htop]
    congr 1
    rw [Nat.pow_succ, ← Nat.mul_assoc (c * 16777216) (2 ^ j) 2]
    generalize c * 16777216 * 2 ^ j = y
    omega
theorem crcB_prog {r c : Nat} (hr : r < 4294967296) (hc : c < 256) : stepsP (r ^^^ (c * 16777216)) 8 = crcB r c := by
  rw [stepsP_eq hr hc 8 (Nat.le_refl _)]
  have : c * 16777216 * 2 ^ 8 % 4294967296 = 0 := by omega
  rw [this, Nat.xor_zero]; rfl
open Go.RowKit
theorem xor_u32 (x y : Int) (hx0 : 0 ≤ x) (hx : x < 4294967296) (hy0 : 0 ≤ y) (hy : y < 4294967296) : bits .xor .u32 x y = ((x.toNat ^^^ y.toNat : Nat) : Int) := by
  obtain ⟨a, rfl⟩ := Int.eq_ofNat_of_zero_le hx0
  obtain ⟨b, rfl⟩ := Int.eq_ofNat_of_zero_le hy0
  have hlt : a ^^^ b < 2 ^ 32 := Nat.xor_lt_two_pow (by omega) (by omega)
  have ha : (BitVec.ofInt 32 (a : Int)).toNat = a := by rw [BitVec.ofInt_natCast, BitVec.toNat_ofNat, Nat.mod_eq_of_lt (by omega)]
  have hb : (BitVec.ofInt 32 (b : Int)).toNat = b := by rw [BitVec.ofInt_natCast, BitVec.toNat_ofNat, Nat.mod_eq_of_lt (by omega)]
  show IntKind.u32.wrap (((BitVec.ofInt 32 (a : Int) ^^^ BitVec.ofInt 32 (b : Int)).toNat : Nat) : Int) = _
  rw [BitVec.toNat_xor, ha, hb, IntKind.wrap_u32, Int.toNat_natCast, Int.toNat_natCast]
  omega
theorem stp_word (Y : Int) (h0 : 0 ≤ Y) (h1 : Y < 4294967296) : bits .xor .u32 (Y * 2 % 4294967296) (79764919 * (Y / 2147483648)) = ((stp Y.toNat 0 : Nat) : Int) := by
  rw [xor_u32 _ _ (by omega) (by omega) (by omega) (by omega)]
  unfold stp
  congr 2
  · omega
  · split <;> omega
/-- What holds at the head of Sum's loop: the register stands for the bytes so far. -/
def SmRel (s : ByteArray) (c i : Value) : Prop :=
  ∃ (k : Nat) (X : Int), k ≤ s.size ∧ i = .int .i64 k ∧ c = .int .u32 X ∧ 0 ≤ X ∧ X < 4294967296 ∧ X.toNat = crc (s.data.toList.take k)
/-- .. of its inner loop. -/
def SmIn (x : Nat) (c i : Value) : Prop :=
  ∃ (j : Nat) (Y : Int), j ≤ 8 ∧ i = .int .i64 j ∧ c = .int .u32 Y ∧ 0 ≤ Y ∧ Y < 4294967296 ∧ Y.toNat = stepsP x j
theorem take_snoc' (s : ByteArray) (k : Nat) (h : k < s.size) : s.data.toList.take (k + 1) = s.data.toList.take k ++ [s[k]] := by
  rw [List.take_succ_eq_append_getElem (by rw [len_data]; exact h)]; rfl
set_option maxRecDepth 100000 in
set_option maxHeartbeats 1000000 in
theorem sum_any (s : ByteArray) (w : World) (hs : s.size ≤ 9223372036854775807) :
    Calls Tryz.prog 30 #[.string s] w fun e w' => e = .returned (.int .u32 (crc s.data.toList)) ∧ w = w' := by
  go_enter Tryz.func30, Tryz.ntmps30
  go_wp2_with fail
  go_loop [3, 7] (fun c i => SmRel s c i) (fun _ i => s.size - (intOf i).toNat)
  case atStart => exact ⟨0, 4294967295, by omega, rfl, rfl, by decide, by decide, rfl⟩
  case round =>
    obtain ⟨k, X, hk, rfl, rfl, hX0, hX1, hX⟩ := hrel
    have HX := Lib.hid hX
    clear hX
    by_cases hlt : k < s.size
    · obtain ⟨c, hc⟩ : ∃ c, s[k] = c := ⟨_, rfl⟩
      have hc0 : (c.toNat : Int) < 256 := by have := c.toNat_lt; omega
      obtain ⟨Z, hZ⟩ : ∃ Z, bits .xor .u32 X ((c.toNat : Int) * 16777216) = Z := ⟨_, rfl⟩
      have hZe : Z = ((X.toNat ^^^ (c.toNat * 16777216) : Nat) : Int) := by
        rw [← hZ, xor_u32 _ _ hX0 hX1 (by omega) (by omega)]
        congr 2
      have hxl : X.toNat ^^^ (c.toNat * 16777216) < 2 ^ 32 := Nat.xor_lt_two_pow (by omega) (by omega)
      have hZ0 : 0 ≤ Z := by rw [hZe]; exact Int.natCast_nonneg _
      have hZ1 : Z < 4294967296 := by rw [hZe]; omega
      have HZe := Lib.hid hZe
      clear hZe hxl
      go_wp2_with fail
      go_loop [3, 17] (fun c i => SmIn Z.toNat c i) (fun _ i => 8 - (intOf i).toNat)
      case atStart => exact ⟨0, Z, by omega, rfl, rfl, hZ0, hZ1, rfl⟩
      case round =>
        obtain ⟨j, Y, hj, rfl, rfl, hY0, hY1, hY⟩ := hrel
        have HY := Lib.hid hY
        clear hY
        by_cases hj8 : j < 8
        · obtain ⟨V, hV⟩ : ∃ V, bits .xor .u32 (Y * 2 % 4294967296) (79764919 * (Y / 2147483648)) = V := ⟨_, rfl⟩
          have hVe : V = ((stp Y.toNat 0 : Nat) : Int) := by rw [← hV, stp_word Y hY0 hY1]
          have HVe := Lib.hid hVe
          clear hVe
          go_wp2_with fail
          go_round
          case rel =>
            have hlt' := stp_lt Y.toNat 0
            have hve := HVe.out
            exact ⟨j + 1, V, by omega, by go_num, rfl, by omega, by omega, by rw [hve, Int.toNat_natCast, HY.out]; rfl⟩
          case measure => simp [intOf]; omega
        · go_wp2_with fail
          go_round
          case rel =>
            have hj' : j = 8 := by omega
            refine ⟨k + 1, Y, by omega, by go_num, rfl, hY0, hY1, ?_⟩
            rw [HY.out, hj', HZe.out, Int.toNat_natCast, take_snoc' s k hlt, crc_snoc, hc, crcB_prog (by omega) c.toNat_lt, HX.out]
          case measure => simp [intOf]; omega
    · have hke : k = s.size := by omega
      have Hke := Lib.hid hke
      clear hke
      go_wp2_with fail
      go_ret
      refine ⟨ret1 ?_, rfl⟩
      have h := HX.out
      rw [Hke.out, List.take_of_length_le (by rw [len_data]; exact Nat.le_refl _)] at h
      omega
/-- .. of the reference's inner loop: the bits from 7 down to j. -/
def RsIn (r c : Nat) (x i : Value) : Prop :=
  ∃ (j : Nat) (Y : Int), j ≤ 8 ∧ i = .int .i64 (7 - (j : Int)) ∧ x = .int .u32 Y ∧ 0 ≤ Y ∧ Y < 4294967296 ∧ Y.toNat = steps r c j
/-- A number's four bytes, the highest first. -/
def be4 (x : Nat) : List UInt8 := [UInt8.ofNat (x / 16777216 % 256), UInt8.ofNat (x / 65536 % 256), UInt8.ofNat (x / 256 % 256), UInt8.ofNat (x % 256)]
def be4S (x : Nat) : ByteArray := ⟨(be4 x).toArray⟩
def headS (b : ByteArray) : ByteArray := ⟨#[166]⟩ ++ digS b.size ++ b
/-- A body's frame. -/
def frm (b : ByteArray) : ByteArray := headS b ++ be4S (crc (headS b).data.toList)
theorem be4S_size (x : Nat) : (be4S x).size = 4 := rfl
theorem headS_size (b : ByteArray) : (headS b).size = 1 + (dig b.size).length + b.size := by
  unfold headS; rw [ByteArray.size_append, ByteArray.size_append, digS_size]; rfl
theorem frm_size (b : ByteArray) : (frm b).size = 1 + (dig b.size).length + b.size + 4 := by
  unfold frm; rw [ByteArray.size_append, headS_size, be4S_size]
theorem Below.al {w a : World} (h : Below w.heap.size w a) (o : Obj) : Below w.heap.size w (a.alloc o) := h.alloc h.size o
/-- The value of the four bytes. -/
def be4V (x : Int) : Value := .agg #[.int .u8 (x / 16777216), .int .u8 (x / 65536 % 256), .int .u8 (x / 256 % 256), .int .u8 (x % 256)]
set_option maxHeartbeats 1000000 in
theorem four_any (n : Int) (w : World) (h0 : 0 ≤ n) (h1 : n < 4294967296) :
    Calls Tryz.prog 29 #[.int .u32 n] w fun e w' => e = .returned (.agg #[.int .u8 (n / 16777216), .int .u8 (n / 65536 % 256), .int .u8 (n / 256 % 256), .int .u8 (n % 256)]) ∧ Below w.heap.size w w' := by
  go_enter Tryz.func29, Tryz.ntmps29
  go_wp2_with fail
  exact bodyPost_ret (v := .agg #[.int .u8 (n / 16777216), .int .u8 (n / 65536 % 256), .int .u8 (n / 256 % 256), .int .u8 (n % 256)]) (by simp [results, Tryz.results29, go_sem]) rfl ⟨rfl, (Below.refl _ _).alloc (Nat.le_refl _) _⟩
/-- string(b) of a new row of bytes. -/
theorem conv_new (W : World) (l : List UInt8) (cs : Array Value) (T : TypeId) (hcs : cs.toList = Lib.byteCells l) :
    (convert 88 9 (.slice (some ⟨W.heap.size, 0, none⟩) l.length l.length)).run Tryz.prog (W.alloc (.cells cs T)) = .ok (.string ⟨l.toArray⟩) (W.alloc (.cells cs T)) := by
  refine run_convert_bytes_back _ 88 9 5 ⟨W.heap.size, 0, none⟩ l.length l Tryz.underlying88 Tryz.underlying5 Tryz.underlying9 ?_
  intro j hj
  rw [show (⟨W.heap.size, 0, none⟩ : Addr).add j = ⟨W.heap.size, j, none⟩ by cases j <;> simp [Addr.add]]
  rw [Lib.cell_of_heap (heap_alloc_new W _), ← Array.getElem?_toList, hcs]
  simp [Lib.byteCells, hj]
theorem u8_cell (x : Int) (h0 : 0 ≤ x) (h1 : x < 256) (n : Nat) (hn : (n : Int) = x) : Value.int .u8 x = .int .u8 ((UInt8.ofNat (n % 256)).toNat : Int) := by
  rw [u8_ofNat_toNat (by omega)]; congr 1; omega
theorem conv_166 (W : World) : (convert 88 9 (.slice (some ⟨W.heap.size, 0, none⟩) 1 1)).run Tryz.prog (W.alloc (.cells #[.int .u8 166] 5)) = .ok (.string ⟨#[166]⟩) (W.alloc (.cells #[.int .u8 166] 5)) :=
  conv_new W [166] _ 5 rfl
theorem be4_cells (x : Int) (h0 : 0 ≤ x) (h1 : x < 4294967296) : [Value.int .u8 (x / 16777216), .int .u8 (x / 65536 % 256), .int .u8 (x / 256 % 256), .int .u8 (x % 256)] = Lib.byteCells (be4 x.toNat) := by
  obtain ⟨n, rfl⟩ := Int.eq_ofNat_of_zero_le h0
  rw [Int.toNat_natCast]
  simp only [Lib.byteCells, be4, List.map_cons, List.map_nil]
  rw [u8_ofNat_toNat (by omega), u8_ofNat_toNat (by omega), u8_ofNat_toNat (by omega), u8_ofNat_toNat (by omega)]
  congr 2
  · omega
theorem conv_be4 (W : World) (x : Int) (h0 : 0 ≤ x) (h1 : x < 4294967296) (T : TypeId) :
    (convert 88 9 (.slice (some ⟨W.heap.size, 0, none⟩) 4 4)).run Tryz.prog (W.alloc (.cells #[.int .u8 (x / 16777216), .int .u8 (x / 65536 % 256), .int .u8 (x / 256 % 256), .int .u8 (x % 256)] T)) =
      .ok (.string (be4S x.toNat)) (W.alloc (.cells #[.int .u8 (x / 16777216), .int .u8 (x / 65536 % 256), .int .u8 (x / 256 % 256), .int .u8 (x % 256)] T)) :=
  conv_new W (be4 x.toNat) _ T (be4_cells x h0 h1)
set_option maxHeartbeats 1000000 in
theorem sput_no (b : ByteArray) (w : World) (h : 8192 < b.size) (hs : b.size ≤ 9223372036854775807) :
    Calls Tryz.prog 8 #[.string b] w fun e w' => e = .returned (.tuple #[.string ⟨#[]⟩, .int .i64 2]) ∧ w = w' := by
  go_enter Tryz.func8, Tryz.ntmps8
  go_wp2_with fail
  go_ret2
  exact ⟨rfl, rfl⟩
set_option maxHeartbeats 1000000 in
set_option maxRecDepth 100000 in
theorem sput_yes (b : ByteArray) (w : World) (h : b.size ≤ 8192) :
    Calls Tryz.prog 8 #[.string b] w fun e w' => e = .returned (.tuple #[.string (frm b), .int .i64 0]) ∧ Below w.heap.size w w' := by
  have hc := cnt_le (n := b.size) (by omega)
  have hd : (digS b.size).size ≤ 10 := by rw [digS_size, dig_length]; omega
  have k1 := fun W => run_string_add_sum (P := Tryz.prog) W ⟨#[166]⟩ (digS b.size) (by show 1 + _ ≤ _; omega)
  have k2 := fun W => run_string_add_sum (P := Tryz.prog) W (⟨#[166]⟩ ++ digS b.size) b (by rw [ByteArray.size_append]; show 1 + _ + _ ≤ _; omega)
  have hH : ⟨#[166]⟩ ++ digS b.size ++ b = headS b := rfl
  have hHs : (headS b).size ≤ 9000 := by rw [headS_size, dig_length]; omega
  have hX := crc_lt (headS b).data.toList
  obtain ⟨X, hXe⟩ : ∃ X : Int, X = (crc (headS b).data.toList : Int) := ⟨_, rfl⟩
  have hX0 : 0 ≤ X := by omega
  have hX1 : X < 4294967296 := by omega
  have HXe := Lib.hid hXe
  have hF : headS b ++ be4S X.toNat = frm b := by rw [hXe, Int.toNat_natCast]; rfl
  have HF := Lib.hid hF
  have HH := Lib.hid hH
  have k3 := fun W => run_string_add_sum (P := Tryz.prog) W (headS b) (be4S X.toNat) (by rw [be4S_size]; omega)
  have c166 := conv_166
  clear hX hXe hc hd hF hH
  go_enter Tryz.func8, Tryz.ntmps8
  go_wp2_with fail
  refine (put_yes _ _ (by omega) (by omega)).mono ?_
  rintro e w1 ⟨rfl, hb1⟩
  rw [Int.toNat_natCast]
  go_wp2_with fail
  rw [HH.out]
  refine (sum_any _ _ (by omega)).mono ?_
  rintro e w2 ⟨rfl, rfl⟩
  rw [← HXe.out]
  go_wp2_with fail
  refine (four_any X _ hX0 hX1).mono ?_
  rintro e w2 ⟨rfl, hb2⟩
  have c4 := conv_be4 w2 X hX0 hX1 89
  go_wp2_with fail
  rw [HF.out]
  go_ret2
  exact ⟨rfl, Below.al (Below.then (Below.al hb1 _) hb2) _⟩
/-- What Get answers. -/
def sgR (s : ByteArray) (p : Int) : ByteArray × Int × Int :=
  if p < 0 ∨ (s.size : Int) < p then (⟨#[]⟩, 0, 1)
  else if p = s.size then (⟨#[]⟩, 0, 20)
  else if s.data.toList[p.toNat]? ≠ some 166 then (⟨#[]⟩, 0, 21)
  else match getR s.data.toList (p + 1) with
    | (n, fr, e) =>
      if e ≠ 0 then (⟨#[]⟩, 0, e) else if 8192 < n then (⟨#[]⟩, 0, 2) else if (s.size : Int) < fr + n + 4 then (⟨#[]⟩, 0, 20)
      else if be4S (crc (s.extract p.toNat (fr.toNat + n)).data.toList) = s.extract (fr.toNat + n) (fr.toNat + n + 4) then (s.extract fr.toNat (fr.toNat + n), fr + n + 4, 0)
      else (⟨#[]⟩, 0, 30)
theorem bcell {W w1 : World} (hb : Below W.heap.size W w1) : (∀ b o, b < W.heap.size → w1.cell? ⟨b, o, none⟩ = W.cell? ⟨b, o, none⟩) ∧ (∀ b o, b < W.heap.size → w1.frozen? ⟨b, o, none⟩ = W.frozen? ⟨b, o, none⟩) :=
  ⟨fun b o h => hb.cell (p := ⟨b, o, none⟩) h, fun b o h => hb.frozen (p := ⟨b, o, none⟩) h⟩
theorem four_list (T : ByteArray) (h : T.size = 4) : T.data.toList = [T.data[0]'(by show 0 < T.size; omega), T.data[1]'(by show 1 < T.size; omega), T.data[2]'(by show 2 < T.size; omega), T.data[3]'(by show 3 < T.size; omega)] := by
  have hl : T.data.toList.length = 4 := by rw [len_data]; exact h
  apply List.ext_getElem (by simpa using hl)
  intro i h1 h2
  have : i < 4 := by simpa using h2
  rcases (show i = 0 ∨ i = 1 ∨ i = 2 ∨ i = 3 by omega) with rfl | rfl | rfl | rfl <;> rfl
/-- The test on four bytes is the test on the two strings. -/
theorem sg_match {s T4 : ByteArray} {fr n : Nat} {c0 c1 c2 c3 : UInt8} {X : Int} {Y : Nat} {R : Bool} (hT4 : s.extract (fr + n) (fr + n + 4) = T4) (_ : T4.size = 4)
    (hcc : T4.data.toList = [c0, c1, c2, c3]) (hX : X = (Y : Int)) (hR : (X / 16777216 == (c0.toNat : Int) && (X / 65536 % 256 == (c1.toNat : Int) && (X / 256 % 256 == (c2.toNat : Int) && X % 256 == (c3.toNat : Int)))) = R) (hY : Y < 4294967296) :
    R = true ↔ be4S Y = s.extract (fr + n) (fr + n + 4) := by
  rw [hT4, ← hR, hX]
  have hb : be4S Y = T4 ↔ be4 Y = T4.data.toList := ⟨fun h => by rw [← h]; rfl, fun h => bytes_ext h⟩
  rw [hb, hcc]
  simp only [be4, Bool.and_eq_true, beq_iff_eq, List.cons.injEq, and_true, ← UInt8.toNat_inj]
  rw [u8_ofNat_toNat (by omega), u8_ofNat_toNat (by omega), u8_ofNat_toNat (by omega), u8_ofNat_toNat (by omega)]
  omega
theorem new_cell (W : World) (cs : Array Value) (T : TypeId) (f : Nat × Nat) (j : Nat) : (W.alloc (.cells cs T f)).cell? ⟨W.heap.size, j, none⟩ = cs[j]? := by
  have h : (W.alloc (.cells cs T f)).heap[W.heap.size]? = some (.cells cs T f) := heap_alloc_new _ _
  exact Lib.cell_of_heap h j
theorem slice_at (W : World) (s : ByteArray) (i j : Int) (a b : Nat) (hi : i = a) (hj : j = b) (hab : a ≤ b) (hb : b ≤ s.size) :
    (Instr.slice 9 (.string s) (some (.int .i64 i)) (some (.int .i64 j)) none).run Tryz.prog W = .ok (.string (s.extract a b)) W := by
  subst hi; subst hj
  rw [run_slice_string_if W 9 s .i64 .i64 (a : Int) (b : Int) Tryz.underlying9, if_pos ⟨by omega, by omega⟩, if_pos ⟨by omega, by omega⟩, Int.toNat_natCast, Int.toNat_natCast]
theorem eq_u8 (W : World) (d : Nat) (a b : Int) : (Op.equalIn (d + 1) 5 (.int .u8 a) (.int .u8 b)).run Tryz.prog W = .ok (a == b) W := by
  simp [Op.equalIn, run_underlying Tryz.underlying5]
theorem eq4 (W : World) (a0 a1 a2 a3 b0 b1 b2 b3 : Int) :
    (Op.equalIn 10000 89 (.agg #[.int .u8 a0, .int .u8 a1, .int .u8 a2, .int .u8 a3]) (.agg #[.int .u8 b0, .int .u8 b1, .int .u8 b2, .int .u8 b3])).run Tryz.prog W = .ok (a0 == b0 && (a1 == b1 && (a2 == b2 && a3 == b3))) W := by
  have h1 := fun (W : World) (a b : Int) => eq_u8 W 9998 a b
  rw [show (10000 : Nat) = 9998 + 1 + 1 from rfl, Op.equalIn]
  simp only [run_underlying Tryz.underlying89, Sem.run_bind, Result.andThen]
  by_cases e0 : a0 = b0 <;> by_cases e1 : a1 = b1 <;> by_cases e2 : a2 = b2 <;> by_cases e3 : a3 = b3 <;> simp [h1, e0, e1, e2, e3, go_sem, List.range', List.forIn_cons, Tryz.sizeOf5, Tryz.isAgg5]
theorem arr4 (W : World) (g c : Nat) : (Instr.arrayAt 89 (.slice (some ⟨g, 0, none⟩) 4 c)).run Tryz.prog W = .ok (.pointer (some ⟨g, 0, none⟩)) W := by
  simp [Instr.arrayAt, run_underlying Tryz.underlying89]
set_option maxHeartbeats 1000000 in
set_option maxRecDepth 100000 in
theorem sget_in (s : ByteArray) (p fr n : Nat) (w : World) (hs : s.size ≤ 140737488355328) (hp : p < s.size) (h166 : s[p] = 166)
    (hg : getR s.data.toList ((p : Int) + 1) = (n, (fr : Int), 0)) (hn : n ≤ 8192) (hfr : p < fr) (hend : fr + n + 4 ≤ s.size) (X : Int) (hX : X = (crc (s.extract p (fr + n)).data.toList : Int)) :
    Calls Tryz.prog 35 #[.string s, .int .i64 p] w fun e w' => e = .returned (if be4S (crc (s.extract p (fr + n)).data.toList) = s.extract (fr + n) (fr + n + 4) then .tuple #[.string (s.extract fr (fr + n)), .int .i64 (fr + n + 4), .int .i64 0] else .tuple #[.string ⟨#[]⟩, .int .i64 0, .int .i64 30]) ∧ Below w.heap.size w w' := by
  obtain ⟨V, hV⟩ : ∃ V, (if be4S (crc (s.extract p (fr + n)).data.toList) = s.extract (fr + n) (fr + n + 4) then Value.tuple #[.string (s.extract fr (fr + n)), .int .i64 (fr + n + 4), .int .i64 0] else .tuple #[.string ⟨#[]⟩, .int .i64 0, .int .i64 30]) = V := ⟨_, rfl⟩
  rw [hV]
  have HV := Lib.hid hV
  clear hV
  have hXl := crc_lt (s.extract p (fr + n)).data.toList
  have hX0 : 0 ≤ X := by omega
  have hX1 : X < 4294967296 := by omega
  have Hg := Lib.hid hg
  have HX := Lib.hid hX
  clear hXl
  clear hg hX
  have hp0 : decide ((p : Int) < 0) = false := by simp
  have hp1 : decide (s.size < p) = false := by simp; omega
  have hp2 : ((p : Int) == (s.size : Int)) = false := by simp; omega
  go_enter Tryz.func35, Tryz.ntmps35
  go_wp2_with fail
  refine (get_any s _ _ n fr 0 (by omega) Hg.out).mono ?_
  rintro e w0 ⟨rfl, rfl⟩
  go_wp2_with fail
  have hT : (s.extract (fr + n) (fr + n + 4)).size = 4 := by rw [ByteArray.size_extract]; omega
  obtain ⟨T4, hT4⟩ : ∃ T4, s.extract (fr + n) (fr + n + 4) = T4 := ⟨_, rfl⟩
  rw [hT4] at hT
  have hb0 := fun (W : World) (c : Nat) (f : Nat × Nat) => (new_cell W (bytesRow T4 c) 5 f 0).trans (bytesRow_at T4 c 0 (by show 0 < T4.size; omega))
  have hb1 := fun (W : World) (c : Nat) (f : Nat × Nat) => (new_cell W (bytesRow T4 c) 5 f 1).trans (bytesRow_at T4 c 1 (by show 1 < T4.size; omega))
  have hb2 := fun (W : World) (c : Nat) (f : Nat × Nat) => (new_cell W (bytesRow T4 c) 5 f 2).trans (bytesRow_at T4 c 2 (by show 2 < T4.size; omega))
  have hb3 := fun (W : World) (c : Nat) (f : Nat × Nat) => (new_cell W (bytesRow T4 c) 5 f 3).trans (bytesRow_at T4 c 3 (by show 3 < T4.size; omega))
  have hcc : T4.data.toList = [T4.data[0]'(by show 0 < T4.size; omega), T4.data[1]'(by show 1 < T4.size; omega), T4.data[2]'(by show 2 < T4.size; omega), T4.data[3]'(by show 3 < T4.size; omega)] := four_list T4 hT
  generalize T4.data[0]'(by show 0 < T4.size; omega) = c0 at hb0 hcc
  generalize T4.data[1]'(by show 1 < T4.size; omega) = c1 at hb1 hcc
  generalize T4.data[2]'(by show 2 < T4.size; omega) = c2 at hb2 hcc
  generalize T4.data[3]'(by show 3 < T4.size; omega) = c3 at hb3 hcc
  have hcv := fun W => run_bytes_of_string (P := Tryz.prog) W 9 88 5 T4 Tryz.underlying9 Tryz.underlying88 Tryz.underlying5
  simp only [hT] at hcv
  have harr := arr4
  obtain ⟨R, hR⟩ : ∃ R, (X / 16777216 == (c0.toNat : Int) && (X / 65536 % 256 == (c1.toNat : Int) && (X / 256 % 256 == (c2.toNat : Int) && X % 256 == (c3.toNat : Int)))) = R := ⟨_, rfl⟩
  have heq := fun W => eq4 W (X / 16777216) (X / 65536 % 256) (X / 256 % 256) (X % 256) c0.toNat c1.toNat c2.toNat c3.toNat
  rw [hR] at heq
  have HR := Lib.hid hR
  clear hR
  have hwr : IntKind.i64.wrap ((fr : Int) + (n : Int) + 4) = (fr : Int) + (n : Int) + 4 := by rw [IntKind.wrap_i64]; omega
  have hs1 := fun W => slice_at W s (p : Int) ((fr : Int) + (n : Int)) p (fr + n) rfl (by push_cast; rfl) (by omega) (by omega)
  have hs2 := fun W => slice_at W s ((fr : Int) + (n : Int)) ((fr : Int) + (n : Int) + 4) (fr + n) (fr + n + 4) (by push_cast; rfl) (by push_cast; rfl) (by omega) (by omega)
  rw [hT4] at hs2
  obtain ⟨S1, hS1⟩ : ∃ S1, s.extract p (fr + n) = S1 := ⟨_, rfl⟩
  rw [hS1] at hs1 HX
  have hS1s : S1.size ≤ 140737488355328 := by rw [← hS1, ByteArray.size_extract]; omega
  have HS1 := Lib.hid hS1
  have HT4 := Lib.hid hT4
  clear hS1 hT4
  go_cut [70] (fun v W => v = .bool !R ∧ Below w.heap.size w W)
  case first =>
    go_region_with (first | (go_at_call 30; refine (sum_any S1 _ (by omega)).mono ?_; rintro e w0 ⟨rfl, rfl⟩; rw [← HX.out]) | (go_at_call 29; refine (four_any X _ hX0 hX1).mono ?_; rintro e w2 ⟨rfl, hb2⟩; obtain ⟨hbc, hbf⟩ := bcell hb2))
    all_goals
      go_wp2_with fail
      go_meet
      refine ⟨rfl, ?_⟩
      repeat' (first | exact Below.refl _ _ | assumption | refine Below.drew ?_ | refine Below.al ?_ _ | refine Below.then ?_ (by assumption))
  case rest =>
    obtain ⟨rfl, hbw⟩ := hcut
    have hR2 := sg_match (s := s) (fr := fr) (n := n) HT4.out hT hcc HX.out HR.out (crc_lt _)
    have HR2 := Lib.hid hR2
    clear hR2
    cases R
    · have hv := HV.out
      rw [HS1.out, if_neg (by rw [← HR2.out]; simp)] at hv
      have Hv := Lib.hid hv
      clear hv
      go_wp2_with fail
      go_ret3
      exact ⟨congrArg Ending.returned Hv.out, hbw⟩
    · have hv := HV.out
      rw [HS1.out, if_pos (HR2.out.1 rfl)] at hv
      have Hv := Lib.hid hv
      clear hv
      go_wp2_with fail
      go_ret3
      exact ⟨congrArg Ending.returned Hv.out, hbw⟩
theorem sgR_end {s : ByteArray} {p fr n : Nat} (hp : p < s.size) (h166 : s[p] = 166) (hg : getR s.data.toList ((p : Int) + 1) = (n, (fr : Int), 0)) (hn : n ≤ 8192) (hend : fr + n + 4 ≤ s.size) :
    sgR s p = if be4S (crc (s.extract p (fr + n)).data.toList) = s.extract (fr + n) (fr + n + 4) then (s.extract fr (fr + n), (fr : Int) + n + 4, 0) else (⟨#[]⟩, 0, 30) := by
  unfold sgR
  rw [if_neg (by omega), if_neg (by omega), Int.toNat_natCast]
  have h1 : s.data.toList[p]? = some 166 := by
    rw [List.getElem?_eq_getElem (by rw [len_data]; exact hp), ← h166]; rfl
  rw [if_neg (by simp [h1]), hg]
  simp only
  rw [if_neg (by simp), if_neg (by omega), if_neg (by omega), Int.toNat_natCast]
theorem tup3 {x : ByteArray} {m e : Int} {y : ByteArray} {m' e' : Int} (h : (x, m, e) = (y, m', e')) : Value.tuple #[.string x, .int .i64 m, .int .i64 e] = .tuple #[.string y, .int .i64 m', .int .i64 e'] := by
  simp only [Prod.mk.injEq] at h; rw [h.1, h.2.1, h.2.2]
set_option maxHeartbeats 1000000 in
set_option maxRecDepth 100000 in
theorem sget_any (s : ByteArray) (p : Int) (w : World) (x : ByteArray) (m e0 : Int) (hs : s.size ≤ 140737488355328) (hr : sgR s p = (x, m, e0)) :
    Calls Tryz.prog 35 #[.string s, .int .i64 p] w fun e w' => e = .returned (.tuple #[.string x, .int .i64 m, .int .i64 e0]) ∧ Below w.heap.size w w' := by
  by_cases h1 : p < 0 ∨ (s.size : Int) < p
  · have hr0 := hr
    unfold sgR at hr
    rw [if_pos h1] at hr
    have Hr := Lib.hid (tup3 hr)
    clear hr hr0
    by_cases hp0 : p < 0
    · go_enter Tryz.func35, Tryz.ntmps35
      go_wp2_with fail
      go_ret3
      exact ⟨congrArg Ending.returned Hr.out, Below.refl _ _⟩
    · have hd : decide (p < 0) = false := by simpa using hp0
      have hp1 : (s.size : Int) < p := by omega
      go_enter Tryz.func35, Tryz.ntmps35
      go_wp2_with fail
      go_ret3
      exact ⟨congrArg Ending.returned Hr.out, Below.refl _ _⟩
  · obtain ⟨q, rfl⟩ := Int.eq_ofNat_of_zero_le (show 0 ≤ p by omega)
    have hq : q ≤ s.size := by omega
    have hd0 : decide ((q : Int) < 0) = false := by simp
    have hd1 : decide (s.size < q) = false := by simp; omega
    by_cases h2 : q = s.size
    · unfold sgR at hr
      rw [if_neg h1, if_pos (by omega)] at hr
      have Hr := Lib.hid (tup3 hr)
      clear hr h1
      have hb : ((q : Int) == (s.size : Int)) = true := beq_iff_eq.2 (by omega)
      have H2 := Lib.hid h2
      clear h2
      go_enter Tryz.func35, Tryz.ntmps35
      go_wp2_with fail
      go_ret3
      exact ⟨congrArg Ending.returned Hr.out, Below.refl _ _⟩
    · have hlt : q < s.size := by omega
      have hb : ((q : Int) == (s.size : Int)) = false := beq_eq_false_iff_ne.2 (by omega)
      have hg1 : s.data.toList[q]? = some s[q] := by
        rw [List.getElem?_eq_getElem (by rw [len_data]; exact hlt)]; rfl
      by_cases h3 : s[q] = 166
      · obtain ⟨⟨n, fr, er⟩, hg⟩ : ∃ r, getR s.data.toList ((q : Int) + 1) = r := ⟨_, rfl⟩
        have hf := rdAt_facts hg (by decide)
        rw [len_data] at hf
        by_cases h4 : er = 0
        · subst h4
          obtain ⟨_, _, hto, hle, hp0⟩ : (0:Int) = 0 ∧ n ≤ 9223372036854775807 ∧ (q : Int) + 1 < fr ∧ fr ≤ s.size ∧ 0 ≤ (q : Int) + 1 := by
            rcases hf with h | h
            · exact h
            · omega
          obtain ⟨f, rfl⟩ := Int.eq_ofNat_of_zero_le (show 0 ≤ fr by omega)
          by_cases h5 : 8192 < n
          · unfold sgR at hr
            rw [if_neg h1, if_neg (by omega), Int.toNat_natCast, if_neg (by simp [hg1, h3]), hg] at hr
            simp only at hr
            rw [if_neg (by simp), if_pos h5] at hr
            have Hr := Lib.hid (tup3 hr)
            have Hg := Lib.hid hg
            have h5' : (8192 : Int) < n := by omega
            have h5'' : (n : Int) ≤ 9223372036854775807 := by omega
            clear hr h1 hg hg1 hf h5 h2
            go_enter Tryz.func35, Tryz.ntmps35
            go_wp2_with fail
            refine (get_any s _ _ n f 0 (by omega) Hg.out).mono ?_
            rintro e w0 ⟨rfl, rfl⟩
            go_wp2_with fail
            go_ret3
            exact ⟨congrArg Ending.returned Hr.out, Below.refl _ _⟩
          · by_cases h6 : (s.size : Int) < f + n + 4
            · unfold sgR at hr
              rw [if_neg h1, if_neg (by omega), Int.toNat_natCast, if_neg (by simp [hg1, h3]), hg] at hr
              simp only at hr
              rw [if_neg (by simp), if_neg h5, if_pos h6] at hr
              have Hr := Lib.hid (tup3 hr)
              have Hg := Lib.hid hg
              clear hr h1 hg hg1 hf h2
              go_enter Tryz.func35, Tryz.ntmps35
              go_wp2_with fail
              refine (get_any s _ _ n f 0 (by omega) Hg.out).mono ?_
              rintro e w0 ⟨rfl, rfl⟩
              go_wp2_with fail
              go_ret3
              exact ⟨congrArg Ending.returned Hr.out, Below.refl _ _⟩
            · rw [sgR_end hlt h3 hg (by omega) (by omega)] at hr
              refine (sget_in s q f n w hs hlt h3 hg (by omega) (by omega) (by omega) _ rfl).mono ?_
              rintro e w' ⟨rfl, hb⟩
              refine ⟨?_, hb⟩
              split at hr
              · rename_i hc
                rw [if_pos hc, tup3 hr]
              · rename_i hc
                rw [if_neg hc, tup3 hr]
        · unfold sgR at hr
          rw [if_neg h1, if_neg (by omega), Int.toNat_natCast, if_neg (by simp [hg1, h3]), hg] at hr
          simp only at hr
          rw [if_pos h4] at hr
          have Hr := Lib.hid (tup3 hr)
          have Hg := Lib.hid hg
          have hbe : (er != 0) = true := by simpa using h4
          clear hr h1 hg hg1 hf h2 h4
          go_enter Tryz.func35, Tryz.ntmps35
          go_wp2_with fail
          refine (get_any s _ _ n fr er (by omega) Hg.out).mono ?_
          rintro e w0 ⟨rfl, rfl⟩
          go_wp2_with fail
          go_ret3
          exact ⟨congrArg Ending.returned Hr.out, Below.refl _ _⟩
      · unfold sgR at hr
        rw [if_neg h1, if_neg (by omega), Int.toNat_natCast, if_pos (by rw [hg1]; simpa using h3)] at hr
        have Hr := Lib.hid (tup3 hr)
        obtain ⟨c, hc⟩ : ∃ c, s[q] = c := ⟨_, rfl⟩
        have hbc : ((c.toNat : Int) != 166) = true := by
          rw [hc] at h3
          have : c.toNat ≠ 166 := fun h => h3 (UInt8.toNat_inj.1 h)
          simp; omega
        clear hr h1 hg1 h3 h2
        go_enter Tryz.func35, Tryz.ntmps35
        go_wp2_with fail
        go_ret3
        exact ⟨congrArg Ending.returned Hr.out, Below.refl _ _⟩
/-- A frame that is there is the frame of its body just if its sum fits. -/
theorem frm_iff {s : ByteArray} {p fr n : Nat} (hp : p < s.size) (h166 : s[p] = 166) (hg : getR s.data.toList ((p : Int) + 1) = (n, (fr : Int), 0)) (hend : fr + n + 4 ≤ s.size) :
    (s.extract p (fr + n + 4) = frm (s.extract fr (fr + n))) ↔ be4S (crc (s.extract p (fr + n)).data.toList) = s.extract (fr + n) (fr + n + 4) := by
  obtain ⟨q, t, hq, ht, hqt, hts, _, hx⟩ := rdAt_once (by decide) hg
  obtain rfl : q = p + 1 := by omega
  obtain rfl : t = fr := by omega
  have hbs : (s.extract t (t + n)).size = n := by rw [ByteArray.size_extract]; omega
  have hh : headS (s.extract t (t + n)) = s.extract p (t + n) := by
    apply bytes_ext
    unfold headS
    rw [data_app, data_app, hbs, ← hx, data_extract, data_extract, data_extract]
    have e1 : s.data.toList.drop p = s[p] :: s.data.toList.drop (p + 1) := drop_byte s p hp
    rw [e1, h166, show t + n - p = (t - (p + 1) + n) + 1 by omega, List.take_succ_cons, List.take_add, List.drop_drop]
    rw [show p + 1 + (t - (p + 1)) = t by omega, Nat.add_sub_cancel_left]
    rfl
  unfold frm
  rw [hh]
  have hsp : s.extract p (t + n + 4) = s.extract p (t + n) ++ s.extract (t + n) (t + n + 4) := by
    apply bytes_ext
    rw [data_app, data_extract, data_extract, data_extract, show t + n + 4 - p = (t + n - p) + 4 by omega, List.take_add, List.drop_drop, show p + (t + n - p) = t + n by omega, Nat.add_sub_cancel_left]
  rw [hsp]
  constructor
  · intro h
    have := congrArg (fun b : ByteArray => b.data.toList) h
    simp only [data_app] at this
    exact (bytes_ext (List.append_cancel_left this)).symm
  · intro h; rw [h]
theorem info_str : (Tryz.prog.info? 9).map (fun i => (i.zero, i.size, i.bytes)) = some (some (.string ⟨#[]⟩), 1, 16) := by kernel_rfl
/-- What All reads from a place on (with fuel): the bodies, where that ends, and why. -/
def allF (s : ByteArray) : Nat → Nat → List ByteArray × Nat × Int
  | 0, p => ([], p, 0)
  | f + 1, p =>
    if p = s.size then ([], p, 0)
    else match sgR s p with
      | (x, m, e) => if e ≠ 0 then ([], p, e) else (x :: (allF s f m.toNat).1, (allF s f m.toNat).2)
def allR (s : ByteArray) : List ByteArray × Nat × Int := allF s (s.size + 1) 0
theorem sgR_facts {s : ByteArray} {p m : Int} {x : ByteArray} (h : sgR s p = (x, m, 0)) : ∃ q t : Nat, p = q ∧ m = t ∧ q < t ∧ t ≤ s.size := by
  unfold sgR at h
  by_cases h1 : p < 0 ∨ (s.size : Int) < p
  · rw [if_pos h1] at h; simp at h
  · rw [if_neg h1] at h
    by_cases h2 : p = s.size
    · rw [if_pos h2] at h; simp at h
    · rw [if_neg h2] at h
      split at h
      · simp at h
      · obtain ⟨⟨n, fr, er⟩, hg⟩ : ∃ r, getR s.data.toList (p + 1) = r := ⟨_, rfl⟩
        rw [hg] at h
        simp only at h
        by_cases h4 : er = 0
        · subst h4
          obtain ⟨q, t, hq, rfl, hqt, hts, hn, hx⟩ := rdAt_once (by decide) hg
          rw [if_neg (by simp)] at h
          split at h
          · simp at h
          · split at h
            · simp at h
            · split at h
              · simp only [Prod.mk.injEq] at h
                obtain ⟨_, rfl, _⟩ := h
                refine ⟨p.toNat, t + n + 4, by omega, by omega, by omega, by omega⟩
              · simp at h
        · rw [if_pos h4] at h
          simp only [Prod.mk.injEq] at h
          exact absurd h.2.2 h4
def strCs (L : List ByteArray) : List Value := L.map Value.string
theorem strCs_len (L : List ByteArray) : (strCs L).length = L.length := by simp [strCs]
/-- What holds at the head of All's loop. -/
def AlRel (s : ByteArray) (B : Nat) (w0 : World) (v i : Value) (wr : World) : Prop :=
  ∃ (p f : Nat) (L : List ByteArray), p ≤ s.size ∧ s.size + 1 ≤ f + p ∧ i = .int .i64 p ∧ wr.ownsRow B 9 1 v L.length (strCs L) ∧ L.length ≤ p ∧
    allR s = (L ++ (allF s f p).1, (allF s f p).2) ∧ Below B w0 wr
/-- What All hands back: a slice of its own that holds the bodies, the place, and why. -/
def AllPost (s : ByteArray) (w : World) (e : Ending) (w' : World) : Prop :=
  ∃ v, e = .returned (.tuple #[v, .int .i64 (allR s).2.1, .int .i64 (allR s).2.2]) ∧ w'.ownsRow w.heap.size 9 1 v (allR s).1.length (strCs (allR s).1) ∧ Below w.heap.size w w'
theorem AllPost.mk {s : ByteArray} {w w' : World} {v : Value} {L : List ByteArray} {p : Nat} {e0 : Int} (h : allR s = (L, p, e0)) (hown : w'.ownsRow w.heap.size 9 1 v L.length (strCs L)) (hb : Below w.heap.size w w') :
    AllPost s w (.returned (.tuple #[v, .int .i64 p, .int .i64 e0])) w' := by
  unfold AllPost; rw [h]; exact ⟨v, rfl, hown, hb⟩
theorem ownsRow_below {a b : World} {B : Nat} {e : TypeId} {size : Nat} {v : Value} {n : Nat} {xs : List Value} (h : a.ownsRow B e size v n xs) (k : Below a.heap.size a b) : b.ownsRow B e size v n xs :=
  h.kept (row := none) ⟨k.os, k.tape, k.output, k.size, fun i hi _ => k.block i hi⟩ (by cases v.ownBlock <;> simp)
set_option maxHeartbeats 1000000 in
set_option maxRecDepth 100000 in
theorem all_any (s : ByteArray) (w : World) (hs : s.size ≤ 1000000) :
    Calls Tryz.prog 10 #[.string s] w (AllPost s w) := by
  obtain ⟨i0, hi, hz0, hz1, hz2⟩ := info_parts info_str
  go_enter Tryz.func10, Tryz.ntmps10
  go_wp2_with fail
  go_step3
  go_wp2_with fail
  go_step3
  go_wp2_with fail
  go_loopw [5, 6, 7] (fun v i y wr => y = .int .i64 0 ∧ AlRel s w.heap.size w v i wr) (fun _ i _ _ => s.size - (intOf i).toNat)
  case atStart => exact ⟨rfl, 0, s.size + 1, [], by omega, by omega, rfl, World.ownsRow_nil _ _ _ _, by simp, rfl, Below.refl _ _⟩
  case round =>
    obtain ⟨rfl, p, f, L, hp, hf, rfl, hown, hLp, hall, hbel⟩ := hrel
    obtain ⟨⟨x, m, e0⟩, hr⟩ : ∃ r, sgR s p = r := ⟨_, rfl⟩
    have Hr := Lib.hid hr
    have Hall := Lib.hid hall
    have Hown := Lib.hid hown
    clear hr hall hown
    obtain ⟨f, rfl⟩ : ∃ g, f = g + 1 := ⟨f - 1, by omega⟩
    by_cases hps : p = s.size
    · have hb : ((p : Int) == (s.size : Int)) = true := beq_iff_eq.2 (by omega)
      have hfin : allR s = (L, p, 0) := by
        rw [Hall.out]; unfold allF; rw [if_pos hps]; simp
      have Hfin := Lib.hid hfin
      clear hfin hps
      go_wp2_with fail
      refine (sget_any s p _ x m e0 (by omega) Hr.out).mono ?_
      rintro e w1 ⟨rfl, hb1⟩
      go_wp2_with fail
      rw [Exit.noGoto_ret]
      go_ret3
      exact AllPost.mk Hfin.out (ownsRow_below Hown.out hb1) (Below.then hbel hb1)
    · have hb : ((p : Int) == (s.size : Int)) = false := beq_eq_false_iff_ne.2 (by omega)
      by_cases he : e0 = 0
      · subst he
        obtain ⟨q, t, hq, rfl, hqt, hts⟩ := sgR_facts Hr.out
        have hq' : q = p := by omega
        have Hq := Lib.hid hq'
        have hpt : p < t := by omega
        clear hq hq' hqt
        have hstep : allR s = (L ++ [x] ++ (allF s f t).1, (allF s f t).2) := by
          rw [Hall.out]; rw [allF, if_neg hps, Hr.out]; simp
        have Hstep := Lib.hid hstep
        clear hstep hps
        go_wp2_with fail
        refine (sget_any s p _ x t 0 (by omega) Hr.out).mono ?_
        rintro e w1 ⟨rfl, hb1⟩
        have hsz1 := hb1.size
        have hsz := hbel.size
        have Hown1 := Lib.hid (ownsRow_below Hown.out hb1)
        go_wp2_with (at_builtin; refine wpList_append_own _ rfl _ _ 47 rfl w.heap.size 9 i0 (.string ⟨#[]⟩) 1 16 Tryz.underlying47 hi hz0 hz1 hz2 rfl (by decide) _ _ _ rfl (Hown1.out.alloc _) ⟨w1.heap.size, 0, none⟩ 1 1 [.string x] rfl rfl ?c1 ?c2 ?c3 ?c4 ?c5 ?_)
        case c1 =>
          intro j u hj
          match j, hj with
          | 0, hj => simp at hj; subst hj; simp [Addr.add]
        case c2 => intro u hu; simp at hu; subst hu; rfl
        case c3 => unfold maxLen; omega
        case c4 => omega
        case c5 => simp; omega
        intro v' w2 hown' hgrow _
        have Hown' := Lib.hid hown'
        have Hgrow := Lib.hid hgrow
        clear hown' hgrow
        go_wp2_with fail
        go_roundw
        case rel =>
          refine ⟨rfl, t, f, L ++ [x], by omega, by omega, rfl, ?_, by simp; omega, Hstep.out, ?_⟩
          · have := Hown'.out
            simpa [strCs] using this
          · exact (Below.al (Below.then hbel hb1) _).grown Hgrow.out (by have := (Below.al (Below.then hbel hb1) (Obj.cells #[Value.string x] 9)).size; exact this) (fun k hk => (Hown1.out.lt k hk).1)
        case measure => simp [intOf]; omega
      · have hbe : (e0 != 0) = true := by simpa using he
        have hfin : allR s = (L, p, e0) := by
          rw [Hall.out]; rw [allF, if_neg hps, Hr.out]; simp [he]
        have Hfin := Lib.hid hfin
        clear hfin hps he
        go_wp2_with fail
        refine (sget_any s p _ x m e0 (by omega) Hr.out).mono ?_
        rintro e w1 ⟨rfl, hb1⟩
        go_wp2_with fail
        rw [Exit.noGoto_ret]
        go_ret3
        exact AllPost.mk Hfin.out (ownsRow_below Hown.out hb1) (Below.then hbel hb1)
/-- A slice of strings that reads as a list. -/
def IsStrs (w : World) (v : Value) (L : List ByteArray) : Prop :=
  (∃ x c, v = .slice x 0 c ∧ L = []) ∨ ∃ b off c, v = .slice (some ⟨b, off, none⟩) L.length c ∧ ∀ i (h : i < L.length), w.cell? ⟨b, off + i, none⟩ = some (.string L[i])
theorem IsStrs.of_own {w : World} {B : Nat} {v : Value} {L : List ByteArray} (h : w.ownsRow B 9 1 v L.length (strCs L)) : IsStrs w v L := by
  rcases h.2 with ⟨rfl, h0⟩ | ⟨g, cap, cur, rfl, _⟩
  · exact Or.inl ⟨_, _, rfl, List.length_eq_zero_iff.1 h0⟩
  · refine Or.inr ⟨g, 0, cap, rfl, fun i hi => ?_⟩
    rw [Nat.zero_add, h.cellAt i (by omega)]
    simp [strCs, hi]
theorem IsStrs.below {w a : World} {v : Value} {L : List ByteArray} (h : IsStrs w v L) (k : Below w.heap.size w a) : IsStrs a v L := by
  rcases h with h | ⟨b, off, c, rfl, hc⟩
  · exact Or.inl h
  · refine Or.inr ⟨b, off, c, rfl, fun i hi => ?_⟩
    rw [k.cell (World.block_lt_of_cell? w _ (hc i hi))]
    exact hc i hi
def LkRel (n : Nat) (w0 : World) (i : Value) (wr : World) : Prop := ∃ (k q : Nat), k ≤ n ∧ i = .int .i64 k ∧ wr = w0.drewN q
end Go.Proofs.YtlboehpgpbchhaaGreat.Sel
