/-
  WALKS of layer 3: four and Put of seal, Frame of the reference, short.
-/
import Derived.Test.YtgpifbdjcoiilaaSealW1
namespace Go.Proofs.Ytgpifbdjcoiilaa
open Go.RowKit

/-- A number's four bytes, the highest first. -/
def be4 (x : Nat) : List UInt8 := [UInt8.ofNat (x / 16777216 % 256), UInt8.ofNat (x / 65536 % 256), UInt8.ofNat (x / 256 % 256), UInt8.ofNat (x % 256)]
def be4S (x : Nat) : ByteArray := ⟨(be4 x).toArray⟩
def headS (b : ByteArray) : ByteArray := ⟨#[166]⟩ ++ digS b.size ++ b
/-- A body's frame. -/
def frm (b : ByteArray) : ByteArray := headS b ++ be4S (crc (headS b).data.toList)
theorem be4S_size (x : Nat) : (be4S x).size = 4 := rfl
theorem headS_size (b : ByteArray) : (headS b).size = 1 + (dig b.size).length + b.size := by
  unfold headS; rw [ByteArray.size_append, ByteArray.size_append, digS_size]; rfl
theorem frm_size (b : ByteArray) : (frm b).size = 1 + (dig b.size).length + b.size + 4 := by
  unfold frm; rw [ByteArray.size_append, headS_size, be4S_size]

theorem Below.al {w a : World} (h : Below w.heap.size w a) (o : Obj) : Below w.heap.size w (a.alloc o) := h.alloc h.size o
/-- The value of the four bytes. -/
def be4V (x : Int) : Value := .agg #[.int .u8 (x / 16777216), .int .u8 (x / 65536 % 256), .int .u8 (x / 256 % 256), .int .u8 (x % 256)]
set_option maxHeartbeats 1000000 in
theorem four_any (n : Int) (w : World) (h0 : 0 ≤ n) (h1 : n < 4294967296) :
    Calls Try.prog 57 #[.int .u32 n] w fun e w' => e = .returned (.agg #[.int .u8 (n / 16777216), .int .u8 (n / 65536 % 256), .int .u8 (n / 256 % 256), .int .u8 (n % 256)]) ∧ Below w.heap.size w w' := by
  go_enter Try.func57, Try.ntmps57
  go_wp2_with fail
  exact bodyPost_ret (v := .agg #[.int .u8 (n / 16777216), .int .u8 (n / 65536 % 256), .int .u8 (n / 256 % 256), .int .u8 (n % 256)]) (by simp [results, Try.results57, go_sem]) rfl ⟨rfl, (Below.refl _ _).alloc (Nat.le_refl _) _⟩

/-- string(b) of a new row of bytes. -/
theorem conv_new (W : World) (l : List UInt8) (cs : Array Value) (T : TypeId) (hcs : cs.toList = Lib.byteCells l) :
    (convert 48 9 (.slice (some ⟨W.heap.size, 0, none⟩) l.length l.length)).run Try.prog (W.alloc (.cells cs T)) = .ok (.string ⟨l.toArray⟩) (W.alloc (.cells cs T)) := by
  refine run_convert_bytes_back _ 48 9 5 ⟨W.heap.size, 0, none⟩ l.length l Try.underlying48 Try.underlying5 Try.underlying9 ?_
  intro j hj
  rw [show (⟨W.heap.size, 0, none⟩ : Addr).add j = ⟨W.heap.size, j, none⟩ by cases j <;> simp [Addr.add]]
  rw [Lib.cell_of_heap (heap_alloc_new W _), ← Array.getElem?_toList, hcs]
  simp [Lib.byteCells, hj]
theorem u8_cell (x : Int) (h0 : 0 ≤ x) (h1 : x < 256) (n : Nat) (hn : (n : Int) = x) : Value.int .u8 x = .int .u8 ((UInt8.ofNat (n % 256)).toNat : Int) := by
  rw [u8_ofNat_toNat (by omega)]; congr 1; omega
theorem conv_166 (W : World) : (convert 48 9 (.slice (some ⟨W.heap.size, 0, none⟩) 1 1)).run Try.prog (W.alloc (.cells #[.int .u8 166] 5)) = .ok (.string ⟨#[166]⟩) (W.alloc (.cells #[.int .u8 166] 5)) :=
  conv_new W [166] _ 5 rfl
theorem be4_cells (x : Int) (h0 : 0 ≤ x) (h1 : x < 4294967296) : [Value.int .u8 (x / 16777216), .int .u8 (x / 65536 % 256), .int .u8 (x / 256 % 256), .int .u8 (x % 256)] = Lib.byteCells (be4 x.toNat) := by
  obtain ⟨n, rfl⟩ := Int.eq_ofNat_of_zero_le h0
  rw [Int.toNat_natCast]
  simp only [Lib.byteCells, be4, List.map_cons, List.map_nil]
  rw [u8_ofNat_toNat (by omega), u8_ofNat_toNat (by omega), u8_ofNat_toNat (by omega), u8_ofNat_toNat (by omega)]
  congr 2
  · omega
theorem conv_be4 (W : World) (x : Int) (h0 : 0 ≤ x) (h1 : x < 4294967296) (T : TypeId) :
    (convert 48 9 (.slice (some ⟨W.heap.size, 0, none⟩) 4 4)).run Try.prog (W.alloc (.cells #[.int .u8 (x / 16777216), .int .u8 (x / 65536 % 256), .int .u8 (x / 256 % 256), .int .u8 (x % 256)] T)) =
      .ok (.string (be4S x.toNat)) (W.alloc (.cells #[.int .u8 (x / 16777216), .int .u8 (x / 65536 % 256), .int .u8 (x / 256 % 256), .int .u8 (x % 256)] T)) :=
  conv_new W (be4 x.toNat) _ T (be4_cells x h0 h1)

set_option maxHeartbeats 1000000 in
theorem sput_no (b : ByteArray) (w : World) (h : 8192 < b.size) (hs : b.size ≤ 9223372036854775807) :
    Calls Try.prog 34 #[.string b] w fun e w' => e = .returned (.tuple #[.string ⟨#[]⟩, .int .i64 2]) ∧ w = w' := by
  go_enter Try.func34, Try.ntmps34
  go_wp2_with fail
  go_ret2
  exact ⟨rfl, rfl⟩

set_option maxHeartbeats 1000000 in
set_option maxRecDepth 100000 in
theorem sput_yes (b : ByteArray) (w : World) (h : b.size ≤ 8192) :
    Calls Try.prog 34 #[.string b] w fun e w' => e = .returned (.tuple #[.string (frm b), .int .i64 0]) ∧ Below w.heap.size w w' := by
  have hc := cnt_le (n := b.size) (by omega)
  have hd : (digS b.size).size ≤ 10 := by rw [digS_size, dig_length]; omega
  have k1 := fun W => run_string_add_sum (P := Try.prog) W ⟨#[166]⟩ (digS b.size) (by show 1 + _ ≤ _; omega)
  have k2 := fun W => run_string_add_sum (P := Try.prog) W (⟨#[166]⟩ ++ digS b.size) b (by rw [ByteArray.size_append]; show 1 + _ + _ ≤ _; omega)
  have hH : ⟨#[166]⟩ ++ digS b.size ++ b = headS b := rfl
  have hHs : (headS b).size ≤ 9000 := by rw [headS_size, dig_length]; omega
  have hX := crc_lt (headS b).data.toList
  obtain ⟨X, hXe⟩ : ∃ X : Int, X = (crc (headS b).data.toList : Int) := ⟨_, rfl⟩
  have hX0 : 0 ≤ X := by omega
  have hX1 : X < 4294967296 := by omega
  have HXe := Lib.hid hXe
  have hF : headS b ++ be4S X.toNat = frm b := by rw [hXe, Int.toNat_natCast]; rfl
  have HF := Lib.hid hF
  have HH := Lib.hid hH
  have k3 := fun W => run_string_add_sum (P := Try.prog) W (headS b) (be4S X.toNat) (by rw [be4S_size]; omega)
  have c166 := conv_166
  clear hX hXe hc hd hF hH
  go_enter Try.func34, Try.ntmps34
  go_wp2_with fail
  refine (put_yes _ _ (by omega) (by omega)).mono ?_
  rintro e w1 ⟨rfl, hb1⟩
  rw [Int.toNat_natCast]
  go_wp2_with fail
  rw [HH.out]
  refine (sum_any _ _ (by omega)).mono ?_
  rintro e w2 ⟨rfl, rfl⟩
  rw [← HXe.out]
  go_wp2_with fail
  refine (four_any X _ hX0 hX1).mono ?_
  rintro e w2 ⟨rfl, hb2⟩
  have c4 := conv_be4 w2 X hX0 hX1 71
  go_wp2_with fail
  rw [HF.out]
  go_ret2
  exact ⟨rfl, Below.al (Below.then (Below.al hb1 _) hb2) _⟩

set_option maxHeartbeats 1000000 in
set_option maxRecDepth 100000 in
theorem frame_any (b : ByteArray) (w : World) (h : b.size ≤ 140737488355328) :
    Calls Try.prog 43 #[.string b] w fun e w' => e = .returned (.string (frm b)) ∧ Below w.heap.size w w' := by
  have hc := cnt_le (n := b.size) (by omega)
  have hd : (digS b.size).size ≤ 10 := by rw [digS_size, dig_length]; omega
  have k1 := fun W => run_string_add_sum (P := Try.prog) W ⟨#[166]⟩ (digS b.size) (by show 1 + _ ≤ _; omega)
  have k2 := fun W => run_string_add_sum (P := Try.prog) W (⟨#[166]⟩ ++ digS b.size) b (by rw [ByteArray.size_append]; show 1 + _ + _ ≤ _; omega)
  have hH : ⟨#[166]⟩ ++ digS b.size ++ b = headS b := rfl
  have hHs : (headS b).size ≤ 140737488355339 := by rw [headS_size, dig_length]; omega
  have hX := crc_lt (headS b).data.toList
  obtain ⟨X, hXe⟩ : ∃ X : Int, X = (crc (headS b).data.toList : Int) := ⟨_, rfl⟩
  have hX0 : 0 ≤ X := by omega
  have hX1 : X < 4294967296 := by omega
  have HXe := Lib.hid hXe
  have hF : headS b ++ be4S X.toNat = frm b := by rw [hXe, Int.toNat_natCast]; rfl
  have HF := Lib.hid hF
  have HH := Lib.hid hH
  have k3 := fun W => run_string_add_sum (P := Try.prog) W (headS b) (be4S X.toNat) (by rw [be4S_size]; omega)
  clear hX hXe hc hd hF hH
  go_enter Try.func43, Try.ntmps43
  go_wp2_with fail
  refine (digits_any _ _ (by omega) (by omega)).mono ?_
  rintro e w1 ⟨rfl, hb1⟩
  rw [Int.toNat_natCast]
  go_wp2_with fail
  rw [HH.out]
  refine (rsum_any _ _ (by omega)).mono ?_
  rintro e w2 ⟨rfl, rfl⟩
  rw [← HXe.out]
  have c4 := conv_be4 w1 X hX0 hX1 5
  go_wp2_with fail
  rw [HF.out]
  go_ret
  exact ⟨rfl, Below.al hb1 _⟩

set_option maxHeartbeats 400000 in
theorem sshort_any (s : ByteArray) (w : World) (hs : s.size ≤ 9223372036854775807) :
    Calls Try.prog 38 #[.string s] w fun e w' => e = .returned (.string (shortS 10000 s)) ∧ w = w' := by
  unfold shortS
  by_cases h : 10000 < s.size
  · rw [if_pos h]
    go_enter Try.func38, Try.ntmps38
    go_wp2_with fail
    go_ret
    exact ⟨rfl, rfl⟩
  · rw [if_neg h]
    go_enter Try.func38, Try.ntmps38
    go_wp2_with fail
    go_ret
    exact ⟨rfl, rfl⟩

set_option maxHeartbeats 1000000 in
theorem sums_walk (s : ByteArray) (w : World) (hs : s.size ≤ 9223372036854775807) :
    Calls Try.prog 13 #[.string s] w fun e w' => e = .returned (.bool true) ∧ Below w.heap.size w w' := by
  have hS := shortS_size 10000 s
  have Hsh := Lib.hid (sshort_any s w hs)
  obtain ⟨S, hSe⟩ : ∃ S, shortS 10000 s = S := ⟨_, rfl⟩
  rw [hSe] at hS Hsh
  clear hSe
  obtain ⟨X, hX⟩ : ∃ X, crc S.data.toList = X := ⟨_, rfl⟩
  have HX := Lib.hid hX
  clear hX
  go_enter Try.func13, Try.ntmps13
  go_wp2_with fail
  refine (Hsh.out).mono ?_
  rintro e w0 ⟨rfl, rfl⟩
  by_cases hl : 8192 < S.size
  · go_wp2_with fail
    refine (sput_no S _ hl (by omega)).mono ?_
    rintro e w0 ⟨rfl, rfl⟩
    go_wp2_with fail
    refine (sum_any S _ (by omega)).mono ?_
    rintro e w0 ⟨rfl, rfl⟩
    rw [HX.out]
    go_wp2_with fail
    refine (rsum_any S _ (by omega)).mono ?_
    rintro e w0 ⟨rfl, rfl⟩
    rw [HX.out]
    go_wp2_with fail
    go_ret
    exact ⟨rfl, Below.refl _ _⟩
  · go_wp2_with fail
    refine (sput_yes S _ (by omega)).mono ?_
    rintro e w1 ⟨rfl, hb1⟩
    go_wp2_with fail
    refine (sum_any S _ (by omega)).mono ?_
    rintro e w0 ⟨rfl, rfl⟩
    rw [HX.out]
    go_wp2_with fail
    refine (rsum_any S _ (by omega)).mono ?_
    rintro e w0 ⟨rfl, rfl⟩
    rw [HX.out]
    go_wp2_with fail
    refine (frame_any S _ (by omega)).mono ?_
    rintro e w2 ⟨rfl, hb2⟩
    go_wp2_with fail
    go_ret
    exact ⟨rfl, Below.then hb1 hb2⟩
end Go.Proofs.Ytgpifbdjcoiilaa
