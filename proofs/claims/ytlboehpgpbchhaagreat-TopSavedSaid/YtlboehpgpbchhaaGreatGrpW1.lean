/-
  WALKS of the top laws: a group as bytes: numbers.
-/
import Derived.Test.YtlboehpgpbchhaaGreatVlqT
import Derived.Test.YtlboehpgpbchhaaGreatTopW13
set_option linter.unusedVariables false
set_option linter.unusedSimpArgs false
namespace Go.Proofs.YtlboehpgpbchhaaGreat
open Go.RowKit

theorem strCells_eq (s : ByteArray) : Lib.strCells s = Lib.byteCells s.data.toList := by
  simp [Lib.strCells, Lib.byteCells]
/-- A box that holds bytes of one's own. -/
def BAt (bb : Nat) (l : List UInt8) (W : World) : Prop :=
  ∃ (A : Option Addr) (c : Nat), W.heap[bb]? = some (.cells #[.slice A l.length c] 88 (0, 0)) ∧ W.ownsRow (bb + 1) 5 1 (.slice A l.length c) l.length (Lib.byteCells l)
/-- What stays: whatever is neither the box nor a row of bytes. -/
structure OtK (bb : Nat) (w w' : World) : Prop where
  low : Below bb w w'
  oth : ∀ k o, w.heap[k]? = some o → k ≠ bb → (∀ cs, o ≠ .cells cs 5 (0, 0)) → w'.heap[k]? = some o
theorem OtK.refl (bb : Nat) (w : World) : OtK bb w w := ⟨Below.refl _ _, fun _ _ h _ _ => h⟩
theorem OtK.trans {bb : Nat} {a b c : World} (h : OtK bb a b) (k : OtK bb b c) : OtK bb a c := ⟨h.low.trans k.low, fun i o h1 h2 h3 => k.oth i o (h.oth i o h1 h2 h3) h2 h3⟩
theorem OtK.bel {bb : Nat} {w w' : World} (h : Below w.heap.size w w') (hb : bb ≤ w.heap.size) : OtK bb w w' := ⟨h.mono hb, fun k o h1 _ _ => heap_below h1 h⟩
theorem OtK.row {bb : Nat} {w w' : World} {v : Value} {n : Nat} {xs : List Value} (hg : w.grownBy w' v.ownBlock) (ho : w.ownsRow (bb + 1) 5 1 v n xs) (hb : bb ≤ w.heap.size) : OtK bb w w' :=
  ⟨(Below.refl _ _).grown hg hb (fun k e => by have := (ho.lt k e).1; omega), fun k o h1 _ h3 => by
    rw [hg.block k (blk_lt h1) (fun e => by
      rcases ho.2 with ⟨rfl, _⟩ | ⟨g, cap, cur, rfl, _, hgb, _⟩
      · cases e
      · have e1 : k = g := by simpa [Value.ownBlock] using e
        subst e1
        rw [h1] at hgb
        cases hgb
        exact h3 cur rfl)]
    exact h1⟩
theorem OtK.set {bb : Nat} (w : World) (j : Nat) (u : Value) : OtK bb w (w.setCell ⟨bb, j, none⟩ u) :=
  ⟨(Below.refl _ _).setCell (p := ⟨bb, j, none⟩) (Nat.le_refl _) u, fun k o h1 h2 _ => by rw [Below.heap_setCell _ _ _ k h2]; exact h1⟩
/-- Behind an append of bytes to the box's row, and the store. -/
theorem BAt.app {bb : Nat} {l : List UInt8} {w w1 : World} {A A' : Option Addr} {n n' c c' m : Nat} {bs : List UInt8} (hb : w.heap[bb]? = some (.cells #[.slice A n c] 88 (0, 0))) (ho : w.ownsRow (bb + 1) 5 1 (.slice A n c) n (Lib.byteCells l))
    (ho' : w1.ownsRow (bb + 1) 5 1 (.slice A' n' c') m (Lib.byteCells l ++ Lib.byteCells bs)) (hn : n' = l.length + bs.length) (hm : m = n') (hg : w.grownBy w1 (Value.slice A n c).ownBlock) :
    w1.heap[bb]? = some (.cells #[.slice A n c] 88 (0, 0)) ∧ BAt bb (l ++ bs) (w1.setCell ⟨bb, 0, none⟩ (.slice A' n' c')) ∧ OtK bb w (w1.setCell ⟨bb, 0, none⟩ (.slice A' n' c')) := by
  have h1 : w1.heap[bb]? = some (.cells #[.slice A n c] 88 (0, 0)) := heap_grown' hb hg (fun e => by have := (ho.lt bb e).1; omega)
  subst hn hm
  refine ⟨h1, ⟨A', c', ?_, ?_⟩, (OtK.row hg ho (by have := blk_lt hb; omega)).trans (OtK.set _ _ _)⟩
  · rw [List.length_append]
    exact blk_set h1 0 _
  · rw [List.length_append, show Lib.byteCells (l ++ bs) = Lib.byteCells l ++ Lib.byteCells bs by simp [Lib.byteCells]]
    exact own_set ho' (p := ⟨bb, 0, none⟩) (by simp) _
def kNum (n : Int) : List UInt8 := dig n.toNat
theorem kNum_le {n : Int} (h : n ≤ 9223372036854775807) : (kNum n).length ≤ 10 := by
  unfold kNum
  rw [dig_length]
  have := cnt_le (n := n.toNat) (by omega)
  omega
theorem kNums_le : ∀ {ns : List Int}, (∀ n ∈ ns, n ≤ 9223372036854775807) → (ns.flatMap kNum).length ≤ 10 * ns.length
  | [], _ => by simp
  | n :: ns, h => by
    have h1 := kNum_le (h n (by simp))
    have h2 := kNums_le (ns := ns) (fun m hm => h m (by simp [hm]))
    rw [List.flatMap_cons, List.length_append, List.length_cons]
    omega
theorem BAt.below {bb : Nat} {l : List UInt8} {w w' : World} (h : BAt bb l w) (hb : Below w.heap.size w w') : BAt bb l w' := by
  obtain ⟨A, c, h1, h2⟩ := h
  exact ⟨A, c, heap_below h1 hb, own_below h2 hb⟩
theorem digS_list (n : Nat) : (digS n).data.toList = dig n := by simp [digS]
def NmTo (bb : Nat) (l : List UInt8) (ns : List Int) (w : World) (e : Ending) (w' : World) : Prop := (∃ u, e = .returned u) ∧ BAt bb (l ++ ns.flatMap kNum) w' ∧ OtK bb w w'
def NmRel (bb : Nat) (l : List UInt8) (ns : List Int) (w : World) (i : Value) (wr : World) : Prop := ∃ k : Nat, k ≤ ns.length ∧ i = .int .i64 k ∧ BAt bb (l ++ (ns.take k).flatMap kNum) wr ∧ OtK bb w wr
set_option maxRecDepth 100000 in
set_option maxHeartbeats 2000000 in
theorem numbers_any (bb nb : Nat) (ns : List Int) (l : List UInt8) (w : World) (hb : BAt bb l w) (hn : w.heap[nb]? = some (.cells (ns.map (Value.int .i64)).toArray 2 (0, 0))) (hne : nb ≠ bb) (hns : ∀ n ∈ ns, 0 ≤ n ∧ n ≤ 9223372036854775807) (h3 : ns.length ≤ 3) (hl : l.length ≤ 1000000000) :
    Calls Tryz.prog 40 #[.slice (some ⟨nb, 0, none⟩) ns.length ns.length, .pointer (some ⟨bb, 0, none⟩)] w (NmTo bb l ns w) := by
  have HB := Lib.hid hb
  have HN := Lib.hid hn
  have HNE := Lib.hid hne
  have HNS := Lib.hid hns
  obtain ⟨i0, hi, hz0, hz1, hz2⟩ := info_parts info_u8
  obtain ⟨m, hm⟩ : ∃ m, ns.length = m := ⟨_, rfl⟩
  have HM := Lib.hid hm
  rw [hm] at h3 ⊢
  clear hb hn hne hns hm
  go_enter Tryz.func40, Tryz.ntmps40
  go_wp2_with fail
  go_loopw [9] (fun i wr => NmRel bb l ns w i wr) (fun i _ => m - (intOf i).toNat)
  case atStart => exact ⟨0, Nat.zero_le _, rfl, by simpa using HB.out, OtK.refl _ _⟩
  case round =>
    obtain ⟨k, hk, rfl, hbk, hot⟩ := hrel
    rw [HM.out] at hk
    have BK := Lib.hid hbk
    have OT := Lib.hid hot
    clear hbk hot
    by_cases hlt : k < m
    rotate_left
    · obtain rfl : k = m := by omega
      go_wp2_with fail
      go_end0
      refine ⟨⟨_, rfl⟩, ?_, OT.out⟩
      have := BK.out
      rw [← HM.out, List.take_length] at this
      exact this
    obtain ⟨x, hx⟩ : ∃ x, ns[k]? = some x := ⟨_, List.getElem?_eq_getElem (by rw [HM.out]; exact hlt)⟩
    have hnr := OT.out.oth nb _ HN.out HNE.out (fun cs e => by cases e)
    have zn := blk_lt hnr
    have cx := cellsAt hnr k
    simp [hx] at cx
    have HX := Lib.hid hx
    have hxr := HNS.out x (List.mem_of_getElem? hx)
    have hx0 : 0 ≤ x := hxr.1
    have hx1 : x ≤ 9223372036854775807 := hxr.2
    have HP := Lib.hid (fun w => put_yes x w hx0 hx1)
    have HXL := Lib.hid (kNum_le hx1)
    have hI : (k : Int) < (m : Int) := by omega
    have HTL := Lib.hid (show ((ns.take k).flatMap kNum).length ≤ 30 from Nat.le_trans (kNums_le fun n hn => (HNS.out n (List.mem_of_mem_take hn)).2) (by rw [List.length_take]; omega))
    clear hx hnr hxr hx0 hx1
    go_wp2_with fail
    refine (HP.out _).mono ?_
    rintro e w3 ⟨rfl, hb3⟩
    obtain ⟨A, c, hbx, hox⟩ := BK.out.below hb3
    obtain ⟨ll, hll⟩ : ∃ x, l ++ (ns.take k).flatMap kNum = x := ⟨_, rfl⟩
    have HLL := Lib.hid hll
    rw [hll] at hbx hox
    obtain ⟨nl, hnl⟩ : ∃ x, ll.length = x := ⟨_, rfl⟩
    have HNL := Lib.hid hnl
    rw [hnl] at hbx hox
    have hsz : (digS x.toNat).size = (kNum x).length := digS_size _
    have hnb : nl ≤ 1000000030 := by rw [← hnl, ← hll, List.length_append]; have := HTL.out; omega
    have OT3 := Lib.hid (OT.out.trans (OtK.bel hb3 (by have := OT.out.low.size; have := blk_lt HB.out.choose_spec.choose_spec.1; omega)))
    have HBX := Lib.hid hbx
    have HOX := Lib.hid hox
    have zb := blk_lt hbx
    have cb := cellsAt hbx 0
    have fb := frozAt hbx
    simp at cb
    have hk10 := HXL.out
    clear hbx hox hll hnl hb3
    go_wp2_with (at_builtin; refine Lib.wpList_append_own_string _ rfl _ _ 88 9 rfl (bb + 1) 5 i0 Tryz.underlying88 Tryz.underlying9 hi hz0 hz1 hz2 _ _ _ rfl HOX.out (digS x.toNat) rfl (by unfold maxLen; omega) (by omega) (by omega) ?_; intro v' w4 hown' hgrow _; obtain ⟨A', c', rfl⟩ := own_slice hown'; rw [strCells_eq, digS_list] at hown'; obtain ⟨h41, h42, h43⟩ := BAt.app (bs := kNum x) HBX.out HOX.out hown' (by rw [hsz, HNL.out]) rfl hgrow; have z4 := blk_lt h41; have c4 := cellsAt h41 0; have f4 := frozAt h41; simp at c4)
    have H42 := Lib.hid h42
    have H43 := Lib.hid h43
    clear h41 h42 h43 hgrow hown' c4 f4
    go_roundw
    case rel =>
      refine ⟨k + 1, by rw [HM.out]; omega, by go_num, ?_, by have := H43.out; rw [hsz] at this; exact OT3.out.trans this⟩
      have := H42.out
      rw [← HLL.out, List.append_assoc, hsz] at this
      rw [List.take_add_one, HX.out]
      simpa using this
    case measure => simp [intOf]; omega
end Go.Proofs.YtlboehpgpbchhaaGreat
