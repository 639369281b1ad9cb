/-
  WALKS of the top laws: a group is read back: numbers and texts at a place.
-/
import Derived.Test.YtlboehpgpbchhaaGreatGrpP
set_option linter.unusedVariables false
set_option linter.unusedSimpArgs false
namespace Go.Proofs.YtlboehpgpbchhaaGreat
open Go.RowKit

theorem get_at {s : ByteArray} {p n : Nat} {rest : List UInt8} (hd : s.data.toList.drop p = dig n ++ rest) (hp : p ≤ s.size) (hn : n ≤ 9223372036854775807) : getR s.data.toList p = (n, ((p + (dig n).length : Nat) : Int), 0) := by
  unfold getR rdAt
  have hl : s.data.toList.length = s.size := Array.length_toList
  rw [if_neg (by omega), Int.toNat_natCast, hd, rd_dig _ (by omega) hn]
  simp
theorem gs_at {s : ByteArray} {p n : Nat} {rest : List UInt8} (hd : s.data.toList.drop p = dig n ++ rest) (hp : p ≤ s.size) (hn : n < 18446744073709551616) : gsR s.data.toList p = (n, ((p + (dig n).length : Nat) : Int), 0) := by
  unfold gsR rdAt
  have hl : s.data.toList.length = s.size := Array.length_toList
  rw [if_neg (by omega), Int.toNat_natCast, hd, rd_dig _ hn (by omega)]
  simp
theorem gt_at {s t : ByteArray} {p : Nat} {rest : List UInt8} (hd : s.data.toList.drop p = (dig t.size ++ t.data.toList) ++ rest) (hp : p ≤ s.size) (ht : t.size ≤ 4096) : gtR s p = (t, ((p + (dig t.size ++ t.data.toList).length : Nat) : Int), 0) := by
  have hl : s.data.toList.length = s.size := Array.length_toList
  have htl : t.data.toList.length = t.size := Array.length_toList
  have h1 := get_at (n := t.size) (rest := t.data.toList ++ rest) (by rw [hd, List.append_assoc]) hp (by omega)
  have hlen := congrArg List.length hd
  rw [List.length_drop, hl] at hlen
  simp only [List.length_append] at hlen
  unfold gtR
  rw [h1]
  simp only
  rw [if_neg (by simp), if_neg (by omega), if_neg (by omega)]
  have hx : s.extract ((p + (dig t.size).length : Nat) : Int).toNat (((p + (dig t.size).length : Nat) : Int).toNat + t.size) = t := by
    rw [Int.toNat_natCast]
    apply ByteArray.ext
    apply Array.ext'
    rw [ByteArray.data_extract, Array.toList_extract, List.extract_eq_take_drop, ← List.drop_drop, hd, List.append_assoc, List.drop_left' rfl, show p + (dig t.size).length + t.size - (p + (dig t.size).length) = t.size by omega, ← htl, List.take_left' rfl]
  rw [hx]
  simp only [List.length_append, htl]
  congr 2
  omega
/-- What a reader holds: the text, the place, and no error. -/
structure GSt (s : ByteArray) (b1 b4 b5 : Nat) (p : Nat) (W : World) : Prop where
  s1 : W.heap[b1]? = some (.cells #[.string s] 9 (0, 0))
  s4 : W.heap[b4]? = some (.cells #[.int .i64 p] 3 (0, 0))
  s5 : W.heap[b5]? = some (.cells #[.int .i64 0] 26 (0, 0))
  ne : b1 < b4 ∧ b4 < b5
/-- Two boxes turn alone. -/
structure GFr (b4 b5 : Nat) (w w' : World) : Prop where
  low : Below b4 w w'
  oth : ∀ k, k ≠ b4 → k ≠ b5 → w'.heap[k]? = w.heap[k]?
  size : w'.heap.size = w.heap.size
theorem gfr_set {b4 b5 : Nat} (w : World) (h : b4 < b5) (u v : Value) : GFr b4 b5 w ((w.setCell ⟨b4, 0, none⟩ u).setCell ⟨b5, 0, none⟩ v) :=
  ⟨((Below.refl _ _).setCell (p := ⟨b4, 0, none⟩) (Nat.le_refl _) u).setCell (p := ⟨b5, 0, none⟩) (Nat.le_of_lt h) v, fun k h4 h5 => by rw [Below.heap_setCell _ _ _ k h5, Below.heap_setCell _ _ _ k h4], by simp [World.setCell]⟩
theorem GFr.trans {b4 b5 : Nat} {a b c : World} (h : GFr b4 b5 a b) (k : GFr b4 b5 b c) : GFr b4 b5 a c := ⟨h.low.trans k.low, fun i h1 h2 => (k.oth i h1 h2).trans (h.oth i h1 h2), k.size.trans h.size⟩
theorem gst_set {s : ByteArray} {b1 b4 b5 p p' : Nat} {w : World} (h : GSt s b1 b4 b5 p w) : GSt s b1 b4 b5 p' ((w.setCell ⟨b4, 0, none⟩ (.int .i64 (p' : Nat))).setCell ⟨b5, 0, none⟩ (.int .i64 0)) := by
  obtain ⟨h1, h4, h5, ne⟩ := h
  have n1 : b1 ≠ b4 := by omega
  have n2 : b1 ≠ b5 := by omega
  have n3 : b4 ≠ b5 := by omega
  have n4 : b5 ≠ b4 := by omega
  refine ⟨?_, ?_, ?_, ne⟩
  · rw [Below.heap_setCell _ _ _ b1 n2, Below.heap_setCell _ _ _ b1 n1]; exact h1
  · rw [Below.heap_setCell _ _ _ b4 n3]; exact blk_set h4 0 _
  · have : (w.setCell ⟨b4, 0, none⟩ (.int .i64 (p' : Nat))).heap[b5]? = some (.cells #[.int .i64 0] 26 (0, 0)) := by rw [Below.heap_setCell _ _ _ b5 n4]; exact h5
    exact blk_set this 0 _
/-- A reading that goes on. -/
def RdTo (s : ByteArray) (b1 b4 b5 p' : Nat) (v : Value) (w : World) (e : Ending) (w' : World) : Prop := e = .returned v ∧ GSt s b1 b4 b5 p' w' ∧ GFr b4 b5 w w'
set_option maxRecDepth 100000 in
theorem num_any (s : ByteArray) (b1 b4 b5 p : Nat) (v : Int) (rest : List UInt8) (w : World) (h : GSt s b1 b4 b5 p w) (hd : s.data.toList.drop p = kNum v ++ rest) (hp : p ≤ s.size) (hs : s.size ≤ 1000000000) (hv : 0 ≤ v) (hn : v ≤ 9223372036854775807) :
    Calls Tryz.prog 52 #[.func (.func 55) #[] #[], .pointer (some ⟨b5, 0, none⟩), .pointer (some ⟨b1, 0, none⟩), .pointer (some ⟨b4, 0, none⟩)] w (RdTo s b1 b4 b5 (p + (kNum v).length) (.int .i64 v) w) := by
  unfold kNum at hd ⊢
  have HG := Lib.hid (fun w => get_any s p w v.toNat _ 0 (by omega) (get_at hd hp (by omega)))
  rw [Int.toNat_of_nonneg hv] at HG
  obtain ⟨n, hnn⟩ : ∃ x, v.toNat = x := ⟨_, rfl⟩
  rw [hnn] at HG hd ⊢
  have H := Lib.hid h
  have z1 := blk_lt h.s1
  have z4 := blk_lt h.s4
  have z5 := blk_lt h.s5
  have c1 := boxCl h.s1
  have c4 := boxCl h.s4
  have c5 := boxCl h.s5
  have f4 := boxFz h.s4
  have f5 := boxFz h.s5
  have hne := h.ne
  have hl : p + (dig n).length ≤ s.size := by
    have := congrArg List.length hd
    rw [List.length_drop, List.length_append] at this
    have hl : s.data.toList.length = s.size := Array.length_toList
    have : 0 < (dig n).length := by rw [dig_length]; omega
    omega
  obtain ⟨p', hp'⟩ : ∃ x, p + (dig n).length = x := ⟨_, rfl⟩
  rw [hp'] at HG hl ⊢
  clear h hd hp' hnn
  go_enter Tryz.func52, Tryz.ntmps52
  go_wp2_with (go_at_call 55; refine (HG.out _).mono ?_; rintro e w' ⟨rfl, rfl⟩)
  go_ret
  exact ⟨rfl, gst_set H.out, gfr_set _ hne.2 _ _⟩
set_option maxRecDepth 100000 in
theorem snum_any (s : ByteArray) (b1 b4 b5 p : Nat) (a : Int) (rest : List UInt8) (w : World) (h : GSt s b1 b4 b5 p w) (hd : s.data.toList.drop p = dig (zz a) ++ rest) (hp : p ≤ s.size) (hs : s.size ≤ 1000000000) (ha : i64B a) :
    Calls Tryz.prog 52 #[.func (.func 56) #[] #[], .pointer (some ⟨b5, 0, none⟩), .pointer (some ⟨b1, 0, none⟩), .pointer (some ⟨b4, 0, none⟩)] w (RdTo s b1 b4 b5 (p + (dig (zz a)).length) (.int .i64 a) w) := by
  have hn := zz_lt ha.1 ha.2
  have HG := Lib.hid (fun w => gets_any s p w (zz a) _ 0 (by omega) (gs_at hd hp hn))
  rw [unz_zz] at HG
  obtain ⟨n, hnn⟩ : ∃ x, zz a = x := ⟨_, rfl⟩
  rw [hnn] at HG hd hn ⊢
  have H := Lib.hid h
  have z1 := blk_lt h.s1
  have z4 := blk_lt h.s4
  have z5 := blk_lt h.s5
  have c1 := boxCl h.s1
  have c4 := boxCl h.s4
  have c5 := boxCl h.s5
  have f4 := boxFz h.s4
  have f5 := boxFz h.s5
  have hne := h.ne
  have hl : p + (dig n).length ≤ s.size := by
    have := congrArg List.length hd
    rw [List.length_drop, List.length_append] at this
    have hl : s.data.toList.length = s.size := Array.length_toList
    have : 0 < (dig n).length := by rw [dig_length]; omega
    omega
  unfold i64B at ha
  obtain ⟨p', hp'⟩ : ∃ x, p + (dig n).length = x := ⟨_, rfl⟩
  rw [hp'] at HG hl ⊢
  clear h hd hp' hnn hn
  go_enter Tryz.func52, Tryz.ntmps52
  go_wp2_with (go_at_call 56; refine (HG.out _).mono ?_; rintro e w' ⟨rfl, rfl⟩)
  go_ret
  exact ⟨rfl, gst_set H.out, gfr_set _ hne.2 _ _⟩
set_option maxRecDepth 100000 in
theorem gtext_any (s t : ByteArray) (b1 b4 b5 p : Nat) (rest : List UInt8) (w : World) (h : GSt s b1 b4 b5 p w) (hd : s.data.toList.drop p = (dig t.size ++ t.data.toList) ++ rest) (hp : p ≤ s.size) (hs : s.size ≤ 1000000000) (ht : t.size ≤ 4096) :
    Calls Tryz.prog 53 #[.pointer (some ⟨b5, 0, none⟩), .pointer (some ⟨b1, 0, none⟩), .pointer (some ⟨b4, 0, none⟩)] w (RdTo s b1 b4 b5 (p + (dig t.size ++ t.data.toList).length) (.string t) w) := by
  have HG := Lib.hid (fun w => gett_any s p w t _ 0 (by omega) (gt_at hd hp ht))
  have H := Lib.hid h
  have z1 := blk_lt h.s1
  have z4 := blk_lt h.s4
  have z5 := blk_lt h.s5
  have c1 := boxCl h.s1
  have c4 := boxCl h.s4
  have c5 := boxCl h.s5
  have f4 := boxFz h.s4
  have f5 := boxFz h.s5
  have hne := h.ne
  have hl : p + (dig t.size ++ t.data.toList).length ≤ s.size := by
    have := congrArg List.length hd
    rw [List.length_drop, List.length_append] at this
    have hl : s.data.toList.length = s.size := Array.length_toList
    have : 0 < (dig t.size ++ t.data.toList).length := by rw [List.length_append, dig_length]; omega
    omega
  obtain ⟨p', hp'⟩ : ∃ x, p + (dig t.size ++ t.data.toList).length = x := ⟨_, rfl⟩
  rw [hp'] at HG hl ⊢
  clear h hd hp'
  go_enter Tryz.func53, Tryz.ntmps53
  go_wp2_with (go_at_call 54; refine (HG.out _).mono ?_; rintro e w' ⟨rfl, rfl⟩)
  go_ret
  exact ⟨rfl, gst_set H.out, gfr_set _ hne.2 _ _⟩
end Go.Proofs.YtlboehpgpbchhaaGreat
