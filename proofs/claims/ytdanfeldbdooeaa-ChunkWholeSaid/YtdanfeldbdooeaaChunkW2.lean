/-
  WALKS of layer 20: Split.
-/
import Derived.Test.YtdanfeldbdooeaaChunkW1
set_option linter.unusedVariables false
set_option linter.unusedSimpArgs false
namespace Go.Proofs.Ytdanfeldbdooeaa
open Go.RowKit

theorem data_extract (s : ByteArray) (a b : Nat) : (s.extract a b).data.toList = (s.data.toList.drop a).take (b - a) := by
  rw [ByteArray.data_extract, Array.toList_extract]
theorem bytes_ext {a b : ByteArray} (h : a.data.toList = b.data.toList) : a = b := by
  cases a; cases b; simp only at h; rw [Array.toList_inj.1 h]
theorem len_data (s : ByteArray) : s.data.toList.length = s.size := Array.length_toList
theorem ext_ext (s : ByteArray) (a b c : Nat) (_ : b ≤ s.size) (hc : a + c ≤ b) : (s.extract a b).extract 0 c = s.extract a (a + c) := by
  apply bytes_ext
  simp only [data_extract, List.drop_zero, Nat.sub_zero, List.take_take, Nat.add_sub_cancel_left]
  rw [Nat.min_eq_left (by omega)]
theorem ext_rest (s : ByteArray) (a c : Nat) (_ : a + c ≤ s.size) : (s.extract a s.size).extract c (s.size - a) = s.extract (a + c) s.size := by
  apply bytes_ext
  simp only [data_extract]
  rw [List.drop_take, List.drop_drop, List.take_take, Nat.min_eq_left (by omega)]
  congr 1; omega
theorem ext_clamp (s : ByteArray) (a b : Nat) (h : s.size ≤ b) : s.extract a b = s.extract a s.size := by
  apply bytes_ext
  simp only [data_extract]
  rw [List.take_of_length_le (by rw [List.length_drop, len_data]; omega), List.take_of_length_le (by rw [List.length_drop, len_data]; omega)]
theorem ext_all (s : ByteArray) : s.extract 0 s.size = s := by
  apply bytes_ext
  rw [data_extract, List.drop_zero, Nat.sub_zero, ← len_data, List.take_length]

def ckOf (g : Int) (n : Nat) (s : ByteArray) (i : Nat) : Ck := ⟨g, i, n, s.extract (256 * i) (256 * i + 256)⟩
def nOf (s : ByteArray) : Nat := max ((s.size + 255) / 256) 1
def splitL (g : Int) (s : ByteArray) : List Ck := (List.range (nOf s)).map (ckOf g (nOf s) s)
theorem splitL_len (g : Int) (s : ByteArray) : (splitL g s).length = nOf s := by simp [splitL]
theorem info_ck : (Try.prog.info? 56).map (fun i => (i.zero, i.size, i.bytes)) = some (some (.agg #[.int .i64 0, .int .i64 0, .int .i64 0, .string ⟨#[]⟩]), 4, 40) := by kernel_rfl
/-- What remains at chunk k. -/
def restAt (s : ByteArray) (k : Nat) : ByteArray := s.extract (256 * k) s.size
theorem rest_part (s : ByteArray) (k : Nat) (hk : 256 * k ≤ s.size) : (restAt s k).extract 0 (min (restAt s k).size 256) = s.extract (256 * k) (256 * k + 256) := by
  have hz : (restAt s k).size = s.size - 256 * k := by unfold restAt; rw [ByteArray.size_extract]; omega
  rw [hz]
  unfold restAt
  rw [ext_ext s _ _ _ (Nat.le_refl _) (by omega)]
  by_cases h : s.size - 256 * k ≤ 256
  · rw [Nat.min_eq_left h, ext_clamp s _ (256 * k + 256) (by omega), ext_clamp s _ _ (by omega)]
  · rw [Nat.min_eq_right (by omega)]
theorem rest_next (s : ByteArray) (k : Nat) (hk : 256 * k ≤ s.size) : (restAt s k).extract (min (restAt s k).size 256) (restAt s k).size = s.extract (min (256 * k + 256) s.size) s.size := by
  have hz : (restAt s k).size = s.size - 256 * k := by unfold restAt; rw [ByteArray.size_extract]; omega
  rw [hz]
  unfold restAt
  rw [ext_rest s _ _ (by omega)]
  congr 1; omega
theorem rest_nx (s : ByteArray) (k : Nat) : s.extract (min (256 * k + 256) s.size) s.size = restAt s (k + 1) := by
  unfold restAt
  by_cases h : 256 * k + 256 ≤ s.size
  · rw [Nat.min_eq_left h]; rfl
  · rw [Nat.min_eq_right (by omega)]
    apply bytes_ext
    simp only [data_extract]
    rw [List.drop_eq_nil_of_le (by rw [len_data]; omega), List.drop_eq_nil_of_le (by rw [len_data]; omega)]
    simp
/-- What holds at the head of Split's loop. -/
def SpRel (g : Int) (s : ByteArray) (w : World) (v i : Value) (wr : World) : Prop :=
  ∃ k : Nat, k ≤ nOf s ∧ i = .int .i64 k ∧ wr.ownsRow (w.heap.size + 1) 56 4 v k (((List.range k).map (ckOf g (nOf s) s)).flatMap Ck.cs) ∧
    wr.heap[w.heap.size]? = some (.cells #[.string (restAt s k)] 9 (0, 0)) ∧ Below w.heap.size w wr
/-- Split's answer. -/
def SplitTo (g : Int) (s : ByteArray) (w : World) (e : Ending) (w' : World) : Prop :=
  ∃ v, e = .returned (.tuple #[v, .int .i64 0]) ∧ Row Ck.cs 4 w' v (splitL g s) ∧ Below w.heap.size w w'
set_option maxHeartbeats 2000000 in
set_option maxRecDepth 100000 in
theorem split_yes (g : Int) (s : ByteArray) (w : World) (h0 : 0 ≤ g) (h1 : g < 32) (hs : s.size ≤ 131072) :
    Calls Try.prog 32 #[.int .i64 g, .string s] w (SplitTo g s w) := by
  obtain ⟨i0, hi, hz0, hz1, hz2⟩ := info_parts info_ck
  have HI := Lib.hid hi
  have HZ0 := Lib.hid hz0
  have HZ1 := Lib.hid hz1
  have HZ2 := Lib.hid hz2
  clear hi hz0 hz1 hz2
  have HG := Lib.hid (fun W => group_any g W true (by simp; omega))
  have hn : ∃ n : Nat, nOf s = n ∧ 1 ≤ n ∧ n ≤ 512 ∧ n = max ((s.size + 255) / 256) 1 := ⟨_, rfl, by unfold nOf; omega, by unfold nOf; omega, rfl⟩
  obtain ⟨n, hn, n1, n2, n3⟩ := hn
  have HN := Lib.hid hn
  have HN3 := Lib.hid n3
  clear hn n3
  go_enter Try.func32, Try.ntmps32
  go_wp2_with fail
  refine (HG.out _).mono ?_
  rintro e w' ⟨rfl, rfl⟩
  go_wp2_with fail
  have hnn : max (((s.size : Int) + 256 - 1) / 256) 1 = (n : Int) := by have := HN3.out; omega
  simp only [hnn]
  clear hnn
  go_loopw [8, 26] (fun v i wr => SpRel g s w v i wr) (fun _ i _ => n - (intOf i).toNat)
  case atStart => exact ⟨0, Nat.zero_le _, rfl, World.ownsRow_nil _ _ _ _, by rw [show restAt s 0 = s from ext_all s]; exact heap_alloc_new _ _, bel_alloc (Below.refl _ _) _⟩
  case round =>
    obtain ⟨k, hk, rfl, hown, hblk, hbel⟩ := hrel
    rw [HN.out] at hk hown
    by_cases hlt : k < n
    · have h256 : 256 * k ≤ s.size := by have := HN3.out; omega
      have HP := Lib.hid (rest_part s k h256)
      have HX := Lib.hid ((rest_next s k h256).trans (rest_nx s k))
      have HB := Lib.hid hblk
      have HO := Lib.hid hown
      have HW := Lib.hid hbel
      have hsz := hbel.size
      have hl := blk_lt hblk
      clear hown hblk hbel
      go_wp2_with fail
      refine (next_any _ _ _ HB.out _ rfl).mono ?_
      rintro e w2 ⟨rfl, rfl⟩
      rw [HP.out, HX.out]
      have HB2 := Lib.hid (blk_set HB.out 0 (.string (restAt s (k + 1))))
      have HO2 := Lib.hid (own_set HO.out (p := ⟨w.heap.size, 0, none⟩) (Nat.lt_succ_self _) (.string (restAt s (k + 1))))
      have HW2 := Lib.hid (HW.out.setCell (p := ⟨w.heap.size, 0, none⟩) (Nat.le_refl _) (.string (restAt s (k + 1))))
      have hz2 : (wr.setCell ⟨w.heap.size, 0, none⟩ (.string (restAt s (k + 1)))).heap.size = wr.heap.size := by simp [World.setCell]
      obtain ⟨W2, hW2⟩ : ∃ W2, wr.setCell ⟨w.heap.size, 0, none⟩ (.string (restAt s (k + 1))) = W2 := ⟨_, rfl⟩
      rw [hW2] at HB2 HO2 HW2 hz2 ⊢
      clear HB HO HW hW2 HP HX
      have hsz2 : w.heap.size + 1 ≤ W2.heap.size := by omega
      clear hz2 hl hsz
      obtain ⟨part, hpart⟩ : ∃ x, s.extract (256 * k) (256 * k + 256) = x := ⟨_, rfl⟩
      rw [hpart]
      have HPT := Lib.hid hpart
      clear hpart
      go_wp2_with (at_builtin; refine wpList_append_own _ rfl _ _ 50 rfl (w.heap.size + 1) 56 i0 (.agg #[.int .i64 0, .int .i64 0, .int .i64 0, .string ⟨#[]⟩]) 4 40 Try.underlying50 HI.out HZ0.out HZ1.out HZ2.out rfl (by decide) _ _ _ rfl (HO2.out.alloc _) ⟨W2.heap.size, 0, none⟩ 1 1 [.int .i64 g, .int .i64 k, .int .i64 n, .string part] rfl rfl ?c1 ?c2 ?c3 ?c4 ?c5 ?_)
      case c1 =>
        intro j u hj
        match j, hj with
        | 0, hj => simp at hj; subst hj; simp [Addr.add]
        | 1, hj => simp at hj; subst hj; simp [Addr.add]
        | 2, hj => simp at hj; subst hj; simp [Addr.add]
        | 3, hj => simp at hj; subst hj; simp [Addr.add]
      case c2 => intro u hu; simp at hu; rcases hu with rfl | rfl | rfl | rfl <;> rfl
      case c3 => unfold maxLen; omega
      case c4 => omega
      case c5 => simp; omega
      intro v' W3 hown3 hgrow3 _
      have HO3 := Lib.hid hown3
      have HG3 := Lib.hid hgrow3
      clear hown3 hgrow3
      go_wp2_with fail
      go_roundw
      case rel =>
        refine ⟨k + 1, by rw [HN.out]; omega, by go_num, ?_, ?_, ?_⟩
        · have := HO3.out
          rw [HN.out]
          have e : ((List.range (k + 1)).map (ckOf g n s)).flatMap Ck.cs = ((List.range k).map (ckOf g n s)).flatMap Ck.cs ++ [.int .i64 g, .int .i64 k, .int .i64 n, .string part] := by
            rw [List.range_succ, List.map_append, List.flatMap_append, ← HPT.out]; rfl
          rw [e]
          exact this
        · have h1 := Below.heap_alloc W2 (.cells #[.int .i64 g, .int .i64 k, .int .i64 n, .string part] 56) w.heap.size (by omega)
          have h2 := HG3.out.block w.heap.size (by simp; omega) (by
            intro h
            have := (HO2.out.lt _ h.symm).1
            omega)
          exact h2.trans (h1.trans HB2.out)
        · exact (bel_alloc HW2.out _).grown HG3.out (by simp; omega) (fun q hq => by have := (HO2.out.lt _ hq).1; omega)
      case measure => simp [intOf]; omega
    · have hkn : k = n := by omega
      subst hkn
      have HO := Lib.hid hown
      have HW := Lib.hid hbel
      clear hown hbel hblk
      go_wp2_with fail
      go_ret2
      exact ⟨_, rfl, Row.of_own Ck.cs_len (by unfold splitL; rw [HN.out]; exact HO.out) (by rw [splitL_len, HN.out]), HW.out⟩
end Go.Proofs.Ytdanfeldbdooeaa
