/-
  WALKS of layer 18: LikeItems, Like: of what reads alike they tell true.
-/
import Derived.Test.YtenpgkkefielfaaAlignW5
namespace Go.Proofs.Ytenpgkkefielfaa
open Go.RowKit

theorem sameI_self (a : It) : sameI a a = true := by unfold sameI; simp
def LkRel' (n : Nat) (w0 : World) (i : Value) (wr : World) : Prop := ∃ k : Nat, k ≤ n ∧ i = .int .i64 k ∧ ∃ m, wr = w0.drewN m
def LlRel (n : Nat) (w0 : World) (i : Value) (wr : World) : Prop := ∃ k : Nat, k ≤ n ∧ i = .int .i64 k ∧ Below w0.heap.size w0 wr
theorem eqIt (W : World) (i : It) : (Op.equalIn 10000 43 (itV i) (itV i)).run Try.prog W = .ok true W := by
  have h := eq57 W i i
  rw [sameI_self] at h
  exact h
/-- Two aligners that read alike. -/
def likeA (a b : Aln) : Prop := b.n = a.n ∧ b.got = a.got ∧ b.held.length = a.held.length ∧ ∀ (k : Nat) (x y : Hl), a.held[k]? = some x → b.held[k]? = some y → y.l = x.l
theorem likeA_self (a : Aln) : likeA a a := ⟨rfl, rfl, rfl, fun k x y h1 h2 => by rw [h1] at h2; injection h2 with h2; rw [h2]⟩
set_option maxRecDepth 100000 in
set_option maxHeartbeats 4000000 in
theorem likeI_any (li : List It) (va vb : Value) (w : World) (ha : RowI w va li) (hb : RowI w vb li) :
    Calls Try.prog 20 #[va, vb] w fun e w' => e = .returned (.bool true) ∧ ∃ m, w' = w.drewN m := by
  obtain ⟨ha, -, hl⟩ := ha
  obtain ⟨hb, -, -⟩ := hb
  obtain ⟨A, c, rfl, hc, hA⟩ := ha
  obtain ⟨B, c', rfl, hc', hB⟩ := hb
  have HA := Lib.hid hA
  have HBB := Lib.hid hB
  clear hA hB
  unfold maxLen at hl
  obtain ⟨n, hn⟩ : ∃ n, li.length = n := ⟨_, rfl⟩
  rw [hn] at hl hc hc' ⊢
  have Hn := Lib.hid hn
  clear hn
  go_enter Try.func20, Try.ntmps20
  go_wp2_with fail
  go_loopw [13] (fun i wr => LkRel' n w i wr) (fun i _ => n - (intOf i).toNat)
  case atStart => exact ⟨0, Nat.zero_le _, rfl, 0, rfl⟩
  case round =>
    obtain ⟨k, hk, rfl, m, hm⟩ := hrel
    have HB := Lib.hid (show Below w.heap.size w wr by rw [hm]; exact bDrewN (Below.refl _ _))
    have HM := Lib.hid hm
    clear hm
    by_cases hlt : k < n
    · obtain ⟨x, hi⟩ : ∃ x, li[k]? = some x := ⟨_, List.getElem?_eq_getElem (by rw [Hn.out]; exact hlt)⟩
      obtain ⟨b, o, rfl, hb, hX⟩ := HA.out (by rw [Hn.out]; omega)
      obtain ⟨b2, o2, rfl, hb2, hY⟩ := HBB.out (by rw [Hn.out]; omega)
      have c0 := (HB.out.cell (p := ⟨b, o + k * 11 + 0, none⟩) hb).trans (hX k x 0 _ hi rfl)
      have c1 := (HB.out.cell (p := ⟨b, o + k * 11 + 1, none⟩) hb).trans (hX k x 1 _ hi rfl)
      have c2 := (HB.out.cell (p := ⟨b, o + k * 11 + 2, none⟩) hb).trans (hX k x 2 _ hi rfl)
      have c3 := (HB.out.cell (p := ⟨b, o + k * 11 + 3, none⟩) hb).trans (hX k x 3 _ hi rfl)
      have c4 := (HB.out.cell (p := ⟨b, o + k * 11 + 4, none⟩) hb).trans (hX k x 4 _ hi rfl)
      have c5 := (HB.out.cell (p := ⟨b, o + k * 11 + 5, none⟩) hb).trans (hX k x 5 _ hi rfl)
      have c6 := (HB.out.cell (p := ⟨b, o + k * 11 + 6, none⟩) hb).trans (hX k x 6 _ hi rfl)
      have c7 := (HB.out.cell (p := ⟨b, o + k * 11 + 7, none⟩) hb).trans (hX k x 7 _ hi rfl)
      have c8 := (HB.out.cell (p := ⟨b, o + k * 11 + 8, none⟩) hb).trans (hX k x 8 _ hi rfl)
      have c9 := (HB.out.cell (p := ⟨b, o + k * 11 + 9, none⟩) hb).trans (hX k x 9 _ hi rfl)
      have c10 := (HB.out.cell (p := ⟨b, o + k * 11 + 10, none⟩) hb).trans (hX k x 10 _ hi rfl)
      have d0 := (HB.out.cell (p := ⟨b2, o2 + k * 11 + 0, none⟩) hb2).trans (hY k x 0 _ hi rfl)
      have d1 := (HB.out.cell (p := ⟨b2, o2 + k * 11 + 1, none⟩) hb2).trans (hY k x 1 _ hi rfl)
      have d2 := (HB.out.cell (p := ⟨b2, o2 + k * 11 + 2, none⟩) hb2).trans (hY k x 2 _ hi rfl)
      have d3 := (HB.out.cell (p := ⟨b2, o2 + k * 11 + 3, none⟩) hb2).trans (hY k x 3 _ hi rfl)
      have d4 := (HB.out.cell (p := ⟨b2, o2 + k * 11 + 4, none⟩) hb2).trans (hY k x 4 _ hi rfl)
      have d5 := (HB.out.cell (p := ⟨b2, o2 + k * 11 + 5, none⟩) hb2).trans (hY k x 5 _ hi rfl)
      have d6 := (HB.out.cell (p := ⟨b2, o2 + k * 11 + 6, none⟩) hb2).trans (hY k x 6 _ hi rfl)
      have d7 := (HB.out.cell (p := ⟨b2, o2 + k * 11 + 7, none⟩) hb2).trans (hY k x 7 _ hi rfl)
      have d8 := (HB.out.cell (p := ⟨b2, o2 + k * 11 + 8, none⟩) hb2).trans (hY k x 8 _ hi rfl)
      have d9 := (HB.out.cell (p := ⟨b2, o2 + k * 11 + 9, none⟩) hb2).trans (hY k x 9 _ hi rfl)
      have d10 := (HB.out.cell (p := ⟨b2, o2 + k * 11 + 10, none⟩) hb2).trans (hY k x 10 _ hi rfl)
      clear hX hY hi
      obtain ⟨i0, i1, i2, i3, i4, i5, i6, i7, i8, i9, i10⟩ := x
      simp only [Nat.add_zero] at c0 c1 c2 c3 c4 c5 c6 c7 c8 c9 c10 d0 d1 d2 d3 d4 d5 d6 d7 d8 d9 d10
      have EQ := fun W => eqIt W ⟨i0, i1, i2, i3, i4, i5, i6, i7, i8, i9, i10⟩
      unfold itV at EQ
      go_wp2_with fail
      go_quiet (fail)
      go_wp2_with fail
      go_roundw
      case rel => exact ⟨k + 1, by omega, by go_num, _, by rw [HM.out, World.drewN_drewN]⟩
      case measure => simp [intOf]; omega
    · have hkn : k = n := by omega
      subst hkn
      go_wp2_with fail
      go_ret
      exact ⟨rfl, m, HM.out⟩
end Go.Proofs.Ytenpgkkefielfaa
