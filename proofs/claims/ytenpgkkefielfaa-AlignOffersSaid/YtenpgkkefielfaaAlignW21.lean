/-
  WALKS of layer 18: LikeLate: of what reads alike it tells true.
-/
import Derived.Test.YtenpgkkefielfaaAlignW14
set_option linter.unusedVariables false
set_option linter.unusedSimpArgs false
namespace Go.Proofs.Ytenpgkkefielfaa
open Go.RowKit

set_option maxRecDepth 100000 in
theorem eqItD (W : World) (a b : It) : (Op.equalIn 9999 43 (itV a) (itV b)).run Try.prog W = .ok (sameI a b) W := by
  have hS : Try.prog.underlying 43 = some (.struct (Try.prog.fieldsOf 43)) := by kernel_rfl
  have hp : Try.prog.stoodInHeld 43 = false := by kernel_rfl
  have h51 : ∀ W (k l : ByteArray) (a b v x : Int), (Op.equalIn 9998 37 (.agg #[.string k, .int .i64 a, .int .i64 v]) (.agg #[.string l, .int .i64 b, .int .i64 x])).run Try.prog W = .ok (k.toList == l.toList && (a == b && v == x)) W := fun W => eq51 W 9996
  have h55 : ∀ W (k l : ByteArray) (lo hi n v lo' hi' n' v' : Int),
    (Op.equalIn 9998 41 (.agg #[.int .i64 lo, .int .i64 hi, .string k, .int .i64 n, .int .i64 v]) (.agg #[.int .i64 lo', .int .i64 hi', .string l, .int .i64 n', .int .i64 v'])).run Try.prog W
      = .ok ((lo == lo' && hi == hi') && (k.toList == l.toList && (n == n' && v == v'))) W := fun W => eq55 W 9995
  have hI : ∀ W (a b : Int), (Op.equalIn 9998 3 (.int .i64 a) (.int .i64 b)).run Try.prog W = .ok (a == b) W := fun W => eqI W 9997
  have hL : ∀ W (a b : Int), (Op.equalIn 9998 2 (.int .i64 a) (.int .i64 b)).run Try.prog W = .ok (a == b) W := fun W => eqL W 9997
  unfold itV sameI
  rw [show (9999 : Nat) = 9998 + 1 from rfl, run_equalIn_agg W _ 43 _ _ hS hp]
  simp only [Program.fieldsOf, Try.underlying43]
  obtain ⟨q, hq⟩ : ∃ q, (a.ek.toList == b.ek.toList && (a.ea == b.ea && a.ev == b.ev)) = q := ⟨_, rfl⟩
  obtain ⟨r, hr⟩ : ∃ r, ((a.lo == b.lo && a.hi == b.hi) && (a.rk.toList == b.rk.toList && (a.rn == b.rn && a.rv == b.rv))) = r := ⟨_, rfl⟩
  cases q <;> cases r <;> by_cases e1 : a.kind = b.kind <;> by_cases e2 : a.ma = b.ma <;> by_cases e3 : a.n = b.n <;> simp [Op.eqFields, go_sem, hI, hL, h51, h55, hq, hr, e1, e2, e3]
set_option maxRecDepth 100000 in
theorem eqLt (W : World) (x : Lt) : (Op.equalIn 10000 49 (ltV x) (ltV x)).run Try.prog W = .ok true W := by
  have hS : Try.prog.underlying 49 = some (.struct (Try.prog.fieldsOf 49)) := by kernel_rfl
  have hp : Try.prog.stoodInHeld 49 = false := by kernel_rfl
  have hI : ∀ W (a : Int), (Op.equalIn 9999 3 (.int .i64 a) (.int .i64 a)).run Try.prog W = .ok (a == a) W := fun W a => eqI W 9998 a a
  have hT : ∀ W, (Op.equalIn 9999 43 (.agg #[.int .i64 x.it.kind, .string x.it.ek, .int .i64 x.it.ea, .int .i64 x.it.ev, .int .i64 x.it.ma, .int .i64 x.it.n, .int .i64 x.it.lo, .int .i64 x.it.hi, .string x.it.rk, .int .i64 x.it.rn, .int .i64 x.it.rv]) (.agg #[.int .i64 x.it.kind, .string x.it.ek, .int .i64 x.it.ea, .int .i64 x.it.ev, .int .i64 x.it.ma, .int .i64 x.it.n, .int .i64 x.it.lo, .int .i64 x.it.hi, .string x.it.rk, .int .i64 x.it.rn, .int .i64 x.it.rv])).run Try.prog W = .ok true W := fun W => by
    have := eqItD W x.it x.it
    rw [sameI_self] at this
    exact this
  unfold ltV
  rw [show (10000 : Nat) = 9999 + 1 from rfl, run_equalIn_agg W _ 49 _ _ hS hp]
  simp only [Program.fieldsOf, Try.underlying49]
  simp [Op.eqFields, go_sem, hI, hT]
set_option maxRecDepth 100000 in
set_option maxHeartbeats 4000000 in
theorem likeLt_any (li : List Lt) (va vb : Value) (w : World) (ha : Row Lt.cs 12 w va li) (hb : Row Lt.cs 12 w vb li) (hl : li.length ≤ 1000000) :
    Calls Try.prog 24 #[va, vb] w fun e w' => e = .returned (.bool true) ∧ ∃ m, w' = w.drewN m := by
  obtain ⟨A, c, rfl, hc, hA⟩ := ha
  obtain ⟨B, c', rfl, hc', hB⟩ := hb
  have HA := Lib.hid hA
  have HBB := Lib.hid hB
  clear hA hB
  obtain ⟨n, hn⟩ : ∃ n, li.length = n := ⟨_, rfl⟩
  rw [hn] at hl hc hc' ⊢
  have Hn := Lib.hid hn
  clear hn
  go_enter Try.func24, Try.ntmps24
  go_wp2_with fail
  go_loopw [13] (fun i wr => LkRel' n w i wr) (fun i _ => n - (intOf i).toNat)
  case atStart => exact ⟨0, Nat.zero_le _, rfl, 0, rfl⟩
  case round =>
    obtain ⟨k, hk, rfl, m, hm⟩ := hrel
    have HB := Lib.hid (show Below w.heap.size w wr by rw [hm]; exact bDrewN (Below.refl _ _))
    have HM := Lib.hid hm
    clear hm
    by_cases hlt : k < n
    · obtain ⟨x, hi⟩ : ∃ x, li[k]? = some x := ⟨_, List.getElem?_eq_getElem (by rw [Hn.out]; exact hlt)⟩
      obtain ⟨b, o, rfl, hb, hX⟩ := HA.out (by rw [Hn.out]; omega)
      obtain ⟨b2, o2, rfl, hb2, hY⟩ := HBB.out (by rw [Hn.out]; omega)
      have c0 := (HB.out.cell (p := ⟨b, o + k * 12 + 0, none⟩) hb).trans (hX k x 0 _ hi rfl)
      have c1 := (HB.out.cell (p := ⟨b, o + k * 12 + 1, none⟩) hb).trans (hX k x 1 _ hi rfl)
      have c2 := (HB.out.cell (p := ⟨b, o + k * 12 + 2, none⟩) hb).trans (hX k x 2 _ hi rfl)
      have c3 := (HB.out.cell (p := ⟨b, o + k * 12 + 3, none⟩) hb).trans (hX k x 3 _ hi rfl)
      have c4 := (HB.out.cell (p := ⟨b, o + k * 12 + 4, none⟩) hb).trans (hX k x 4 _ hi rfl)
      have c5 := (HB.out.cell (p := ⟨b, o + k * 12 + 5, none⟩) hb).trans (hX k x 5 _ hi rfl)
      have c6 := (HB.out.cell (p := ⟨b, o + k * 12 + 6, none⟩) hb).trans (hX k x 6 _ hi rfl)
      have c7 := (HB.out.cell (p := ⟨b, o + k * 12 + 7, none⟩) hb).trans (hX k x 7 _ hi rfl)
      have c8 := (HB.out.cell (p := ⟨b, o + k * 12 + 8, none⟩) hb).trans (hX k x 8 _ hi rfl)
      have c9 := (HB.out.cell (p := ⟨b, o + k * 12 + 9, none⟩) hb).trans (hX k x 9 _ hi rfl)
      have c10 := (HB.out.cell (p := ⟨b, o + k * 12 + 10, none⟩) hb).trans (hX k x 10 _ hi rfl)
      have c11 := (HB.out.cell (p := ⟨b, o + k * 12 + 11, none⟩) hb).trans (hX k x 11 _ hi rfl)
      have d0 := (HB.out.cell (p := ⟨b2, o2 + k * 12 + 0, none⟩) hb2).trans (hY k x 0 _ hi rfl)
      have d1 := (HB.out.cell (p := ⟨b2, o2 + k * 12 + 1, none⟩) hb2).trans (hY k x 1 _ hi rfl)
      have d2 := (HB.out.cell (p := ⟨b2, o2 + k * 12 + 2, none⟩) hb2).trans (hY k x 2 _ hi rfl)
      have d3 := (HB.out.cell (p := ⟨b2, o2 + k * 12 + 3, none⟩) hb2).trans (hY k x 3 _ hi rfl)
      have d4 := (HB.out.cell (p := ⟨b2, o2 + k * 12 + 4, none⟩) hb2).trans (hY k x 4 _ hi rfl)
      have d5 := (HB.out.cell (p := ⟨b2, o2 + k * 12 + 5, none⟩) hb2).trans (hY k x 5 _ hi rfl)
      have d6 := (HB.out.cell (p := ⟨b2, o2 + k * 12 + 6, none⟩) hb2).trans (hY k x 6 _ hi rfl)
      have d7 := (HB.out.cell (p := ⟨b2, o2 + k * 12 + 7, none⟩) hb2).trans (hY k x 7 _ hi rfl)
      have d8 := (HB.out.cell (p := ⟨b2, o2 + k * 12 + 8, none⟩) hb2).trans (hY k x 8 _ hi rfl)
      have d9 := (HB.out.cell (p := ⟨b2, o2 + k * 12 + 9, none⟩) hb2).trans (hY k x 9 _ hi rfl)
      have d10 := (HB.out.cell (p := ⟨b2, o2 + k * 12 + 10, none⟩) hb2).trans (hY k x 10 _ hi rfl)
      have d11 := (HB.out.cell (p := ⟨b2, o2 + k * 12 + 11, none⟩) hb2).trans (hY k x 11 _ hi rfl)
      clear hX hY hi
      obtain ⟨ik, i0, i1, i2, i3, i4, i5, i6, i7, i8, i9, i10⟩ := x
      simp only [Nat.add_zero] at c0 c1 c2 c3 c4 c5 c6 c7 c8 c9 c10 c11 d0 d1 d2 d3 d4 d5 d6 d7 d8 d9 d10 d11
      have EQ := fun W => eqLt W ⟨ik, i0, i1, i2, i3, i4, i5, i6, i7, i8, i9, i10⟩
      unfold ltV at EQ
      go_wp2_with fail
      go_quiet (fail)
      go_wp2_with fail
      go_roundw
      case rel => exact ⟨k + 1, by omega, by go_num, _, by rw [HM.out, World.drewN_drewN]⟩
      case measure => simp [intOf]; omega
    · have hkn : k = n := by omega
      subst hkn
      go_wp2_with fail
      go_ret
      exact ⟨rfl, m, HM.out⟩
end Go.Proofs.Ytenpgkkefielfaa
