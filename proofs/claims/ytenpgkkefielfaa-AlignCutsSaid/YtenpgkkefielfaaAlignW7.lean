/-
  WALKS of layer 18: Like of aligners.
-/
import Derived.Test.YtenpgkkefielfaaAlignW6
namespace Go.Proofs.Ytenpgkkefielfaa
open Go.RowKit

set_option maxRecDepth 100000 in
set_option maxHeartbeats 4000000 in
theorem alike_any (a b : Aln) (hab : likeA a b) (va vb : Value) (w : World) (ha : AlAt w va a) (hb : AlAt w vb b) :
    Calls Try.prog 23 #[va, vb] w fun e w' => e = .returned (.bool true) ∧ Below w.heap.size w w' := by
  obtain ⟨l1, l2, l3, l4⟩ := hab
  obtain ⟨Ag, cg, Ah, ch, rfl, hg, hh, hat, -, hlg, hlh⟩ := al_form ha
  obtain ⟨Bg, dg, Bh, dh, rfl, kg, kh, kat, -, -, -⟩ := al_form hb
  rw [l1, l2, l3]
  rw [l2] at kg
  have HG := Lib.hid hg
  have HH := Lib.hid hh
  have KG := Lib.hid kg
  have KH := Lib.hid kh
  have HAT := Lib.hid hat
  have KAT := Lib.hid kat
  have HL4 := Lib.hid l4
  have HL3 := Lib.hid l3
  clear ha hb hg hh kg kh hat kat l1 l2 l4
  unfold maxLen at hlg hlh
  obtain ⟨lg, hlg'⟩ : ∃ n, a.got.length = n := ⟨_, rfl⟩
  obtain ⟨lh, hlh'⟩ : ∃ n, a.held.length = n := ⟨_, rfl⟩
  have HLG := Lib.hid hlg'
  have HLH := Lib.hid hlh'
  rw [hlg'] at hlg HG KG ⊢
  rw [hlh'] at hlh HH ⊢
  clear hlg' hlh' l3
  go_enter Try.func23, Try.ntmps23
  go_wp2_with fail
  obtain ⟨W1, hW2⟩ : ∃ X, X = ((w).alloc (.cells #[.int .i64 a.n, .slice Ag lg cg, .slice Ah lh ch] 26)).alloc (.cells #[.int .i64 a.n, .slice Bg lg dg, .slice Bh lh dh] 26) := ⟨_, rfl⟩
  rw [← hW2]
  have hb3 : Below w.heap.size w W1 := by rw [hW2]; exact bel_alloc (bel_alloc (Below.refl _ _) _) _
  have Na := Lib.hid (show W1.heap[w.heap.size]? = some (.cells #[.int .i64 a.n, .slice Ag lg cg, .slice Ah lh ch] 26 (0, 0)) by rw [hW2]; exact heap_below (heap_at (w) _ (w.heap.size) (by simp)) (bel_alloc (Below.refl _ _) _))
  have Nb := Lib.hid (show W1.heap[w.heap.size + 1]? = some (.cells #[.int .i64 a.n, .slice Bg lg dg, .slice Bh lh dh] 26 (0, 0)) by rw [hW2]; exact heap_at ((w).alloc (.cells #[.int .i64 a.n, .slice Ag lg cg, .slice Ah lh ch] 26)) _ (w.heap.size + 1) (by simp))
  clear hW2
  have BB4 := Lib.hid hb3
  clear hb3
  have Bla := Na
  clear Na
  have Blb := Nb
  clear Nb
  have za := blk_lt Bla.out
  have xa0 := cellsAt Bla.out 0
  have xa1 := cellsAt Bla.out 1
  have xa2 := cellsAt Bla.out 2
  have fa := frozAt Bla.out
  simp at xa0 xa1 xa2
  have zb := blk_lt Blb.out
  have xb0 := cellsAt Blb.out 0
  have xb1 := cellsAt Blb.out 1
  have xb2 := cellsAt Blb.out 2
  have fb := frozAt Blb.out
  simp at xb0 xb1 xb2
  go_loopw [33] (fun i wr => LlRel lg W1 i wr) (fun i _ => lg - (intOf i).toNat)
  case atStart => exact ⟨0, Nat.zero_le _, rfl, Below.refl _ _⟩
  case round =>
    obtain ⟨k, hk, rfl, hbel⟩ := hrel
    have hrelB := Lib.hid hbel
    have Z := Lib.hid (heap_below Bla.out hbel)
    clear Bla
    have Bla := Z
    clear Z
    have Z := Lib.hid (heap_below Blb.out hbel)
    clear Blb
    have Blb := Z
    clear Z
    have BB5 := Lib.hid (bThen BB4.out hbel)
    clear hbel
    by_cases hlt : k < lg
    · obtain ⟨x, hi⟩ : ∃ x, a.got[k]? = some x := ⟨_, List.getElem?_eq_getElem (by rw [HLG.out]; exact hlt)⟩
      obtain ⟨b1, o1, d1, e1, -, hb1, hX1⟩ := HG.out.at_ hi
      injection e1 with e1 e1b e1c
      subst e1
      clear e1b e1c
      obtain ⟨b2, o2, d2, e2, -, hb2, hX2⟩ := KG.out.at_ hi
      injection e2 with e2 e2b e2c
      subst e2
      clear e2b e2c
      have p0 := (BB5.out.cell (p := ⟨b1, o1 + k * 1 + 0, none⟩) hb1).trans (hX1 0 _ rfl)
      have p1 := (BB5.out.cell (p := ⟨b2, o2 + k * 1 + 0, none⟩) hb2).trans (hX2 0 _ rfl)
      simp only [Nat.add_zero, Nat.mul_one] at p0 p1
      clear hX1 hX2 hi
      have zb1 := Nat.lt_of_lt_of_le hb1 BB5.out.size
      have zb2 := Nat.lt_of_lt_of_le hb2 BB5.out.size
      have hki : (0 : Int) ≤ (k : Int) := by omega
      have hki2 : (k : Int) < (lg : Int) := by omega
      have za := blk_lt Bla.out
      have xa0 := cellsAt Bla.out 0
      have xa1 := cellsAt Bla.out 1
      have xa2 := cellsAt Bla.out 2
      have fa := frozAt Bla.out
      simp at xa0 xa1 xa2
      have zb := blk_lt Blb.out
      have xb0 := cellsAt Blb.out 0
      have xb1 := cellsAt Blb.out 1
      have xb2 := cellsAt Blb.out 2
      have fb := frozAt Blb.out
      simp at xb0 xb1 xb2
      go_wp2_with fail
      go_quiet (fail)
      go_wp2_with fail
      go_roundw
      case rel => exact ⟨k + 1, by omega, by go_num, bDrewN hrelB.out⟩
      case measure => simp [intOf]; omega
    · have hkn : lg = k := by omega
      subst hkn
      generalize wr = wq at *
      have za := blk_lt Bla.out
      have xa0 := cellsAt Bla.out 0
      have xa1 := cellsAt Bla.out 1
      have xa2 := cellsAt Bla.out 2
      have fa := frozAt Bla.out
      simp at xa0 xa1 xa2
      have zb := blk_lt Blb.out
      have xb0 := cellsAt Blb.out 0
      have xb1 := cellsAt Blb.out 1
      have xb2 := cellsAt Blb.out 2
      have fb := frozAt Blb.out
      simp at xb0 xb1 xb2
      go_wp2_with fail
      go_loopw [51] (fun i wr => LlRel lh wq i wr) (fun i _ => lh - (intOf i).toNat)
      case atStart => exact ⟨0, Nat.zero_le _, rfl, Below.refl _ _⟩
      case round =>
        obtain ⟨k, hk, rfl, hbel⟩ := hrel
        have hrelB := Lib.hid hbel
        have Z := Lib.hid (heap_below Bla.out hbel)
        clear Bla
        have Bla := Z
        clear Z
        have Z := Lib.hid (heap_below Blb.out hbel)
        clear Blb
        have Blb := Z
        clear Z
        have BB6 := Lib.hid (bThen BB5.out hbel)
        clear hbel
        by_cases hlt : k < lh
        · obtain ⟨x, hi⟩ : ∃ x, a.held[k]? = some x := ⟨_, List.getElem?_eq_getElem (by rw [HLH.out]; exact hlt)⟩
          obtain ⟨y, hj⟩ : ∃ y, b.held[k]? = some y := ⟨_, List.getElem?_eq_getElem (by rw [HL3.out, HLH.out]; exact hlt)⟩
          have hl := HL4.out k x y hi hj
          obtain ⟨b1, o1, d1, e1, -, hb1, hX1⟩ := HH.out.at_ hi
          injection e1 with e1 e1b e1c
          subst e1
          clear e1b e1c
          obtain ⟨b2, o2, d2, e2, -, hb2, hX2⟩ := KH.out.at_ hj
          injection e2 with e2 e2b e2c
          subst e2
          clear e2b e2c
          have p0 := (BB6.out.cell (p := ⟨b1, o1 + k * 1 + 0, none⟩) hb1).trans (hX1 0 _ rfl)
          have p1 := (BB6.out.cell (p := ⟨b2, o2 + k * 1 + 0, none⟩) hb2).trans (hX2 0 _ rfl)
          have RX := Lib.hid ((HAT.out x (List.mem_of_getElem? hi)).below BB6.out)
          have RY := Lib.hid (show RowI wr y.row x.l by rw [← hl]; exact (KAT.out y (List.mem_of_getElem? hj)).below BB6.out)
          obtain ⟨⟨Ax, cx, hxe, -, -⟩, -, -⟩ := RX.out
          obtain ⟨⟨Ay, cy, hye, -, -⟩, -, -⟩ := RY.out
          simp only [Nat.add_zero, Nat.mul_one] at p0 p1
          clear hX1 hX2 hi hj hl
          obtain ⟨xr, xl⟩ := x
          obtain ⟨yr, yl⟩ := y
          simp only at hxe hye p0 p1
          subst hxe hye
          have zb1 := Nat.lt_of_lt_of_le hb1 BB6.out.size
          have zb2 := Nat.lt_of_lt_of_le hb2 BB6.out.size
          have hki : (0 : Int) ≤ (k : Int) := by omega
          have hki2 : (k : Int) < (lh : Int) := by omega
          have za := blk_lt Bla.out
          have xa0 := cellsAt Bla.out 0
          have xa1 := cellsAt Bla.out 1
          have xa2 := cellsAt Bla.out 2
          have fa := frozAt Bla.out
          simp at xa0 xa1 xa2
          have zb := blk_lt Blb.out
          have xb0 := cellsAt Blb.out 0
          have xb1 := cellsAt Blb.out 1
          have xb2 := cellsAt Blb.out 2
          have fb := frozAt Blb.out
          simp at xb0 xb1 xb2
          go_wp2_with fail
          go_quiet (first | (go_at_call 20; exact Calls.quiet_of (likeI_any xl _ _ _ (RX.out.below (by first | exact Below.refl _ _ | exact bDrewN (Below.refl _ _))) (RY.out.below (by first | exact Below.refl _ _ | exact bDrewN (Below.refl _ _))))))
          go_wp2_with fail
          go_roundw
          case rel => exact ⟨k + 1, by omega, by go_num, bDrewN hrelB.out⟩
          case measure => simp [intOf]; omega
        · have hkn : lh = k := by omega
          subst hkn
          go_wp2_with fail
          go_ret
          exact ⟨rfl, BB6.out⟩
end Go.Proofs.Ytenpgkkefielfaa
