/-
  WALKS: the texts -SinkW1, -SinkW2, -SinkW3, -SinkW4, -SinkW5, SinkW6, but for what speaks of functions that are not here (progonly.py).
-/
import Derived.Test.YtlboehpgpbchhaaGreatSnT1
set_option linter.unusedVariables false
set_option linter.unusedSimpArgs false

namespace Go.Proofs.YtlboehpgpbchhaaGreat.Itm
open Go.ChangeShapes Go.WideShapes Go.ChangeAt Go.RowKit Go.Deep
open Go.RowKit
def sameR (a b : Res) : Bool := (a.lo == b.lo && a.hi == b.hi) && (a.k.toList == b.k.toList && (a.n == b.n && a.v == b.v))
theorem sameR_self (a : Res) : sameR a a = true := by unfold sameR; simp
theorem eqRes (W : World) (lo hi : Int) (k : ByteArray) (n v : Int) : (Op.equalIn 10000 37 (.agg #[.int .i64 lo, .int .i64 hi, .string k, .int .i64 n, .int .i64 v]) (.agg #[.int .i64 lo, .int .i64 hi, .string k, .int .i64 n, .int .i64 v])).run Tryz.prog W = .ok true W := by
  have h := eq55 W 9997 k k lo hi n v lo hi n v
  simpa using h
def LkRel (l : List Res) (w0 : World) (i : Value) (wr : World) : Prop := ∃ k : Nat, k ≤ l.length ∧ i = .int .i64 k ∧ ∃ m, wr = w0.drewN m
set_option maxRecDepth 100000 in
set_option maxHeartbeats 1000000 in
theorem likeR_any (li : List Res) (va vb : Value) (w : World) (ha : RowR w va li) (hb : RowR w vb li) :
    Calls Tryz.prog 12 #[va, vb] w fun e w' => e = .returned (.bool true) ∧ ∃ m, w' = w.drewN m := by
  obtain ⟨ha, -, hl⟩ := ha
  obtain ⟨hb, -, -⟩ := hb
  obtain ⟨A, c, rfl, hc, hA⟩ := ha
  obtain ⟨B, c', rfl, hc', hB⟩ := hb
  have HA := Lib.hid hA
  have HBB := Lib.hid hB
  clear hA hB
  unfold maxLen at hl
  obtain ⟨n, hn⟩ : ∃ n, li.length = n := ⟨_, rfl⟩
  rw [hn] at hl hc hc' ⊢
  have Hn := Lib.hid hn
  clear hn
  go_enter Tryz.func12, Tryz.ntmps12
  go_wp2_with fail
  go_loopw [13] (fun i wr => LkRel li w i wr) (fun i _ => n - (intOf i).toNat)
  case atStart => exact ⟨0, Nat.zero_le _, rfl, 0, rfl⟩
  case round =>
    obtain ⟨k, hk, rfl, m, hm⟩ := hrel
    rw [Hn.out] at hk
    have HB := Lib.hid (show Below w.heap.size w wr by rw [hm]; exact bDrewN (Below.refl _ _))
    have HM := Lib.hid hm
    clear hm
    by_cases hlt : k < n
    · obtain ⟨x, hi⟩ : ∃ x, li[k]? = some x := ⟨_, List.getElem?_eq_getElem (by rw [Hn.out]; exact hlt)⟩
      obtain ⟨b, o, rfl, hb, hX⟩ := HA.out (by rw [Hn.out]; omega)
      obtain ⟨b2, o2, rfl, hb2, hY⟩ := HBB.out (by rw [Hn.out]; omega)
      have c0 := (HB.out.cell (p := ⟨b, o + k * 5 + 0, none⟩) hb).trans (hX k x 0 _ hi rfl)
      have c1 := (HB.out.cell (p := ⟨b, o + k * 5 + 1, none⟩) hb).trans (hX k x 1 _ hi rfl)
      have c2 := (HB.out.cell (p := ⟨b, o + k * 5 + 2, none⟩) hb).trans (hX k x 2 _ hi rfl)
      have c3 := (HB.out.cell (p := ⟨b, o + k * 5 + 3, none⟩) hb).trans (hX k x 3 _ hi rfl)
      have c4 := (HB.out.cell (p := ⟨b, o + k * 5 + 4, none⟩) hb).trans (hX k x 4 _ hi rfl)
      have d0 := (HB.out.cell (p := ⟨b2, o2 + k * 5 + 0, none⟩) hb2).trans (hY k x 0 _ hi rfl)
      have d1 := (HB.out.cell (p := ⟨b2, o2 + k * 5 + 1, none⟩) hb2).trans (hY k x 1 _ hi rfl)
      have d2 := (HB.out.cell (p := ⟨b2, o2 + k * 5 + 2, none⟩) hb2).trans (hY k x 2 _ hi rfl)
      have d3 := (HB.out.cell (p := ⟨b2, o2 + k * 5 + 3, none⟩) hb2).trans (hY k x 3 _ hi rfl)
      have d4 := (HB.out.cell (p := ⟨b2, o2 + k * 5 + 4, none⟩) hb2).trans (hY k x 4 _ hi rfl)
      clear hX hY hi
      obtain ⟨lo, hi5, ks, rn, rv⟩ := x
      simp only [Nat.add_zero] at c0 c1 c2 c3 c4 d0 d1 d2 d3 d4
      have EQ := fun W => eqRes W lo hi5 ks rn rv
      go_wp2_with fail
      go_quiet (fail)
      go_wp2_with fail
      go_roundw
      case rel => exact ⟨k + 1, by rw [Hn.out]; omega, by go_num, _, by rw [HM.out, World.drewN_drewN]⟩
      case measure => simp [intOf]; omega
    · have hkn : k = n := by omega
      subst hkn
      go_wp2_with fail
      go_ret
      exact ⟨rfl, m, HM.out⟩
theorem heap_at2 (W : World) (o : Obj) (g : Nat) (h : W.heap.size = g) : (W.alloc o).heap[g]? = some o := by subst h; exact heap_alloc_new _ _
theorem RowR.drewN {W : World} {v : Value} {l : List Res} (h : RowR W v l) (n : Nat) : RowR (W.drewN n) v l := ⟨h.1.drewN n, h.2⟩
/-- Two rows of stages that read alike. -/
def likeS (st st2 : List Stg) : Prop := st2.length = st.length ∧ ∀ (k : Nat) (x y : Stg), st[k]? = some x → st2[k]? = some y → y.n = x.n ∧ y.l = x.l
def LsRel (n : Nat) (w0 : World) (i : Value) (wr : World) : Prop := ∃ k : Nat, k ≤ n ∧ i = .int .i64 k ∧ Below w0.heap.size w0 wr
end Go.Proofs.YtlboehpgpbchhaaGreat.Itm
