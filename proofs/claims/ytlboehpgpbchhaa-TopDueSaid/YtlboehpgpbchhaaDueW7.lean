/-
  WALKS of the law TopDue: heap.Push, Heap.Push, New, Len.
-/
import Derived.Test.YtlboehpgpbchhaaDueW6
set_option linter.unusedVariables false
set_option linter.unusedSimpArgs false
namespace Go.Proofs.Ytlboehpgpbchhaa
open Go.RowKit

/-- A heap that is one. -/
def HpOk (hb : Nat) (l : List Tm) (W : World) : Prop := (∃ v, HpAt hb v l W) ∧ HpF (key l) l.length
set_option maxRecDepth 100000 in
set_option maxHeartbeats 4000000 in
theorem hpush_any (hb : Nat) (l : List Tm) (x : Tm) (w : World) (hw : HpOk hb l w) (hl : l.length ≤ 900) :
    Calls Try.prog 53 #[.iface 100 (.pointer (some ⟨hb, 0, none⟩)), .iface 62 x.val] w fun e w' => e = .returned (.tuple #[]) ∧ (∃ l', l'.Perm (l ++ [x]) ∧ HpOk hb l' w') ∧ Below hb w w' := by
  obtain ⟨⟨v, hat⟩, hhp⟩ := hw
  have HA := Lib.hid hat
  have HP := Lib.hid hhp
  have mP := met_push hb w
  clear hat hhp
  obtain ⟨n, hn⟩ : ∃ n, l.length = n := ⟨_, rfl⟩
  have HN := Lib.hid hn
  rw [hn] at hl
  clear hn
  obtain ⟨xv, hxv⟩ : ∃ y, x.val = y := ⟨_, rfl⟩
  have HX := Lib.hid hxv
  rw [hxv]
  clear hxv
  go_enter Try.func53, Try.ntmps53
  go_wp2_with fail
  rw [← HX.out]
  refine (rpush_any hb v l x _ HA.out (by rw [HN.out]; omega)).mono ?_
  rintro e w2 ⟨rfl, ⟨v2, h2⟩, hb2⟩
  have HA2 := Lib.hid h2
  have HB2 := Lib.hid hb2
  obtain ⟨A2, c2, rfl⟩ := own_slice h2.2
  have hcell := cellsAt h2.1 0
  simp only [List.length_append, HN.out, List.length_cons, List.length_nil] at HA2 ⊢
  simp [HN.out] at hcell
  have mN := met_len hb A2 (n + 1) c2 w2 hcell
  clear hcell h2 hb2 mP
  go_wp2_with fail
  refine (tlen_any A2 (n + 1) c2 w2).mono ?_
  rintro e w3 ⟨rfl, rfl⟩
  have hln : (l ++ [x]).length = n + 1 := by rw [List.length_append, HN.out]; rfl
  have hupp := up_push (x := x) HP.out
  rw [hln, HN.out] at hupp
  have HUP := Lib.hid (up_any hb _ (l ++ [x]) n w3 HA2.out (by rw [hln]; omega) (by rw [hln]; omega) (by rw [hln]; exact hupp))
  have HLN := Lib.hid hln
  clear hln hupp mN
  go_wp2_with fail
  refine HUP.out.mono ?_
  rintro e w4 ⟨rfl, ⟨l', hper, hhp4, hat4⟩, hg4⟩
  have hle := HB2.out.size
  have hbl : Below hb w w4 := HB2.out.grown hg4 (Nat.le_of_lt (blk_lt HA2.out.1)) (fun k e => by have := (HA2.out.2.lt k e).1; omega)
  have HBL := Lib.hid hbl
  have HH := Lib.hid (show HpOk hb l' w4 from ⟨⟨_, hat4⟩, by rw [hper.length_eq]; exact hhp4⟩)
  have HPR := Lib.hid hper
  clear hper hhp4 hat4 hg4 hbl hle
  go_wp2_with fail
  go_end0
  exact ⟨rfl, ⟨l', HPR.out, HH.out⟩, HBL.out⟩
theorem HpOk.below {hb : Nat} {l : List Tm} {w w' : World} (h : HpOk hb l w) (hbl : Below w.heap.size w w') : HpOk hb l w' := by
  obtain ⟨⟨v, h1⟩, h2⟩ := h
  exact ⟨⟨v, h1.below hbl⟩, h2⟩
theorem HpOk.lt {hb : Nat} {l : List Tm} {w : World} (h : HpOk hb l w) : hb < w.heap.size := by
  obtain ⟨⟨v, h1⟩, h2⟩ := h
  exact blk_lt h1.1
set_option maxRecDepth 100000 in
set_option maxHeartbeats 4000000 in
theorem tpush_any (hb : Nat) (l : List Tm) (x : Tm) (w : World) (hw : HpOk hb l w) (hl : l.length ≤ 900) :
    Calls Try.prog 30 #[.pointer (some ⟨hb, 0, none⟩), x.val] w fun e w' => e = .returned (.tuple #[]) ∧ (∃ l', l'.Perm (l ++ [x]) ∧ HpOk hb l' w') ∧ Below hb w w' := by
  have HW := Lib.hid hw
  have hz := hw.lt
  obtain ⟨xa, xs⟩ := x
  have HX := Lib.hid (fun W h => hpush_any hb l ⟨xa, xs⟩ W h hl)
  unfold Tm.val at HX ⊢
  simp only at HX ⊢
  clear hw
  go_enter Try.func30, Try.ntmps30
  go_upto_region 2 with fail
  obtain ⟨W2, hW2⟩ : ∃ X, X = w.alloc (.cells #[.int .i64 xa, .string xs] 62) := ⟨_, rfl⟩
  rw [← hW2]
  have B2 := Lib.hid (show Below w.heap.size w W2 by rw [hW2]; exact bel_alloc (Below.refl _ _) _)
  have Bp := Lib.hid (show W2.heap[w.heap.size]? = some (.cells #[.int .i64 xa, .string xs] 62 (0, 0)) by rw [hW2]; exact heap_at _ _ _ rfl)
  clear hW2
  have H2 := Lib.hid (HW.out.below B2.out)
  have zp := blk_lt Bp.out
  have zh := H2.out.lt
  have p0 := cellsAt Bp.out 0
  have p1 := cellsAt Bp.out 1
  simp at p0 p1
  go_still_tail 6, (by kernel_rfl)
  repeat still_step
  change wpList _ _ _ _ _ W2.drew
  have HD := Lib.hid (H2.out.below (Below.drew (Below.refl _ _)))
  have BD := Lib.hid (show Below w.heap.size w W2.drew from Below.drew B2.out)
  generalize W2.drew = W3 at HD BD
  clear p0 p1 zp zh H2 B2 Bp
  go_wp2_with fail
  refine (HX.out _ HD.out).mono ?_
  rintro e w4 ⟨rfl, ⟨l', hper, hh⟩, hb4⟩
  have HH := Lib.hid hh
  have HPR := Lib.hid hper
  have HB4 := Lib.hid hb4
  clear hh hper hb4
  go_wp2_with fail
  go_end0
  exact ⟨rfl, ⟨l', HPR.out, HH.out⟩, (BD.out.mono (Nat.le_of_lt hz)).trans HB4.out⟩
set_option maxRecDepth 100000 in
theorem tnew_any (w : World) : Calls Try.prog 29 #[] w fun e w' => e = .returned (.pointer (some ⟨w.heap.size, 0, none⟩)) ∧ HpOk w.heap.size [] w' ∧ Below w.heap.size w w' := by
  go_enter Try.func29, Try.ntmps29
  go_wp2_with fail
  go_ret
  refine ⟨rfl, ⟨⟨.slice none 0 0, heap_at _ _ _ rfl, World.ownsRow_nil _ _ _ _⟩, fun i h0 hi => absurd hi (by simp)⟩, bel_alloc (Below.refl _ _) _⟩
set_option maxRecDepth 100000 in
theorem hlen_any (hb : Nat) (l : List Tm) (w : World) (hw : HpOk hb l w) : Calls Try.prog 33 #[.pointer (some ⟨hb, 0, none⟩)] w fun e w' => e = .returned (.int .i64 l.length) ∧ w' = w := by
  obtain ⟨⟨v, hat⟩, -⟩ := hw
  obtain ⟨A, c, rfl⟩ := own_slice hat.2
  have z := blk_lt hat.1
  have c0 := cellsAt hat.1 0
  simp at c0
  obtain ⟨n, hn⟩ : ∃ n, l.length = n := ⟨_, rfl⟩
  rw [hn] at c0 ⊢
  clear hat hn
  go_enter Try.func33, Try.ntmps33
  go_wp2_with fail
  go_ret
  exact ⟨rfl, rfl⟩
end Go.Proofs.Ytlboehpgpbchhaa
