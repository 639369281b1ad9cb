/-
  WALKS of layer 20: Compare, the binary search among chunks, find, may.
-/
import Derived.Test.YtdanfeldbdooeaaChunkW4
set_option linter.unusedVariables false
set_option linter.unusedSimpArgs false
namespace Go.Proofs.Ytdanfeldbdooeaa
open Go.RowKit

def cmpI (a b : Int) : Int := if a < b then -1 else if b < a then 1 else 0
theorem cmp_any (a b : Int) (w : World) : Calls Try.prog 79 #[.int .i64 a, .int .i64 b] w fun e w' => e = .returned (.int .i64 (cmpI a b)) ∧ w = w' := by
  unfold cmpI
  by_cases h1 : a < b
  · simp only [h1, if_true]
    go_enter Try.func79, Try.ntmps79
    go_wp2
    go_ret
    exact ⟨rfl, rfl⟩
  · by_cases h2 : b < a
    · simp only [h1, h2, if_true, if_false]
      go_enter Try.func79, Try.ntmps79
      go_wp2
      go_ret
      exact ⟨rfl, rfl⟩
    · simp only [h1, h2, if_false]
      go_enter Try.func79, Try.ntmps79
      go_wp2
      go_ret
      exact ⟨rfl, rfl⟩
theorem cmpC_any (c : Ck) (t : Int) (w : World) : Calls Try.prog 85 #[.agg #[.int .i64 c.g, .int .i64 c.no, .int .i64 c.of_, .string c.b], .int .i64 t] w fun e w' => e = .returned (.int .i64 (cmpI c.no t)) ∧ Below w.heap.size w w' := by
  obtain ⟨g, no, of_, b⟩ := c
  simp only
  go_enter Try.func85, Try.ntmps85
  go_wp2_with fail
  refine (cmp_any _ _ _).mono ?_
  rintro e w' ⟨rfl, rfl⟩
  go_wp2_with fail
  go_ret
  exact ⟨rfl, bel_alloc (Below.refl _ _) _⟩
def srtC (l : List Ck) : Prop := ∀ (a b : Nat) (x y : Ck), a < b → l[a]? = some x → l[b]? = some y → x.no < y.no
def fndC (l : List Ck) (i : Nat) (t : Int) : Bool := match l[i]? with | some x => x.no == t | none => false
def atC (l : List Ck) (t : Int) (i : Nat) : Prop := (∀ (a : Nat) (x : Ck), a < i → l[a]? = some x → x.no < t) ∧ (∀ (a : Nat) (x : Ck), i ≤ a → l[a]? = some x → t ≤ x.no)
def BsRel (l : List Ck) (t : Int) (w : World) (vi vj : Value) (wr : World) : Prop :=
  ∃ i j : Nat, i ≤ j ∧ j ≤ l.length ∧ vi = .int .i64 i ∧ vj = .int .i64 j ∧ (∀ (a : Nat) (x : Ck), a < i → l[a]? = some x → x.no < t) ∧ (∀ (a : Nat) (x : Ck), j ≤ a → l[a]? = some x → t ≤ x.no) ∧ Below w.heap.size w wr
def SearchTo (l : List Ck) (t : Int) (w : World) (e : Ending) (w' : World) : Prop := ∃ i : Nat, i ≤ l.length ∧ e = .returned (.tuple #[.int .i64 i, .bool (fndC l i t)]) ∧ atC l t i ∧ Below w.heap.size w w'
theorem cmpI_lt {a t : Int} : cmpI a t < 0 ↔ a < t := by unfold cmpI; split <;> (try split) <;> omega
theorem cmpI_eq {a t : Int} : cmpI a t = 0 ↔ a = t := by unfold cmpI; split <;> (try split) <;> omega
set_option maxHeartbeats 2000000 in
theorem search_any (l : List Ck) (t : Int) (v : Value) (w : World) (hv : Row Ck.cs 4 w v l) (hl : l.length ≤ 1000000) (hs : srtC l) :
    Calls Try.prog 84 #[v, .int .i64 t, .func (.func 85) #[] #[]] w (SearchTo l t w) := by
  have HV := Lib.hid hv
  obtain ⟨A, c, rfl, hc, -⟩ := hv
  have HS := Lib.hid hs
  obtain ⟨n, hn⟩ : ∃ n, l.length = n := ⟨_, rfl⟩
  rw [hn] at hl hc HV ⊢
  have Hn := Lib.hid hn
  clear hn hs
  go_enter Try.func84, Try.ntmps84
  go_wp2_with fail
  go_loopw [9, 10] (fun vi vj wr => BsRel l t w vi vj wr) (fun vi vj _ => (intOf vj).toNat - (intOf vi).toNat)
  case atStart => exact ⟨0, n, Nat.zero_le _, by rw [Hn.out]; exact Nat.le_refl _, rfl, rfl, (fun a x h => absurd h (Nat.not_lt_zero _)), (fun a x h hx => by
    rw [List.getElem?_eq_none (by rw [Hn.out]; exact h)] at hx; cases hx), Below.refl _ _⟩
  case round =>
    obtain ⟨i, j, hij, hj, rfl, rfl, h1, h2, hbel⟩ := hrel
    rw [Hn.out] at hj
    have H1 := Lib.hid h1
    have H2 := Lib.hid h2
    have HB := Lib.hid hbel
    clear h1 h2 hbel
    by_cases hlt : i < j
    · obtain ⟨m, hm⟩ : ∃ m, m = (i + j) / 2 := ⟨_, rfl⟩
      have hmi : i ≤ m := by omega
      have hmj : m < j := by omega
      obtain ⟨x, hx⟩ : ∃ x, l[m]? = some x := ⟨_, List.getElem?_eq_getElem (by rw [Hn.out]; omega)⟩
      obtain ⟨b, o, c2, hv, -, hb, hX⟩ := HV.out.at_ hx
      injection hv with hv hv2 hv3
      subst hv
      clear hv2 hv3
      have e0 := (HB.out.cell (p := ⟨b, o + m * 4 + 0, none⟩) hb).trans (hX 0 _ rfl)
      have e1 := (HB.out.cell (p := ⟨b, o + m * 4 + 1, none⟩) hb).trans (hX 1 _ rfl)
      have e2 := (HB.out.cell (p := ⟨b, o + m * 4 + 2, none⟩) hb).trans (hX 2 _ rfl)
      have e3 := (HB.out.cell (p := ⟨b, o + m * 4 + 3, none⟩) hb).trans (hX 3 _ rfl)
      have HX := Lib.hid hx
      have HM := Lib.hid hm
      clear hX hx
      have HC := Lib.hid (fun W => cmpC_any x t W)
      obtain ⟨xg, xn, xo, xb⟩ := x
      simp only [Nat.add_zero] at e0 e1 e2 e3 HC
      rw [hm] at e0 e1 e2 e3
      clear hm
      go_wp2_with fail
      refine (HC.out _).mono ?_
      rintro e w2 ⟨rfl, hb2⟩
      have HB2 := Lib.hid (bThen HB.out hb2)
      clear hb2 HB e0 e1 e2 e3
      by_cases hc2 : xn < t
      · have hneg : cmpI xn t < 0 := cmpI_lt.2 hc2
        have HC2 := Lib.hid hc2
        clear hc2
        go_wp2_with fail
        go_roundw
        case rel =>
          refine ⟨m + 1, j, by omega, by rw [Hn.out]; omega, congrArg (Value.int .i64) (by have := HM.out; omega), rfl, fun a x h hx => ?_, H2.out, HB2.out⟩
          rcases Nat.lt_or_ge a m with h3 | h3
          · exact Int.lt_trans (HS.out a m x _ h3 hx HX.out) HC2.out
          · obtain rfl : a = m := by omega
            rw [HX.out] at hx
            injection hx with hx
            rw [← hx]; exact HC2.out
        case measure => simp [intOf]; omega
      · have hneg : ¬ cmpI xn t < 0 := fun h => hc2 (cmpI_lt.1 h)
        have HC2 := Lib.hid hc2
        clear hc2
        go_wp2_with fail
        go_roundw
        case rel =>
          refine ⟨i, m, by omega, by rw [Hn.out]; omega, rfl, congrArg (Value.int .i64) (by have := HM.out; omega), H1.out, fun a x h hx => ?_, HB2.out⟩
          rcases Nat.lt_or_ge m a with h3 | h3
          · exact Int.le_of_lt (Int.lt_of_le_of_lt HC2.out (HS.out m a _ x h3 HX.out hx))
          · obtain rfl : a = m := by omega
            rw [HX.out] at hx
            injection hx with hx
            rw [← hx]; exact HC2.out
        case measure => simp [intOf]; omega
    · have hije : i = j := by omega
      subst hije
      by_cases hin : i < n
      · obtain ⟨x, hx⟩ : ∃ x, l[i]? = some x := ⟨_, List.getElem?_eq_getElem (by rw [Hn.out]; omega)⟩
        obtain ⟨b, o, c2, hv, -, hb, hX⟩ := HV.out.at_ hx
        injection hv with hv hv2 hv3
        subst hv
        clear hv2 hv3
        have e0 := (HB.out.cell (p := ⟨b, o + i * 4 + 0, none⟩) hb).trans (hX 0 _ rfl)
        have e1 := (HB.out.cell (p := ⟨b, o + i * 4 + 1, none⟩) hb).trans (hX 1 _ rfl)
        have e2 := (HB.out.cell (p := ⟨b, o + i * 4 + 2, none⟩) hb).trans (hX 2 _ rfl)
        have e3 := (HB.out.cell (p := ⟨b, o + i * 4 + 3, none⟩) hb).trans (hX 3 _ rfl)
        have hfd : fndC l i t = (x.no == t) := by unfold fndC; rw [hx]
        have HF := Lib.hid hfd
        clear hX hx hfd
        have HC := Lib.hid (fun W => cmpC_any x t W)
        obtain ⟨xg, xn, xo, xb⟩ := x
        simp only [Nat.add_zero] at e0 e1 e2 e3 HC HF
        go_wp2_with fail
        refine (HC.out _).mono ?_
        rintro e w2 ⟨rfl, hb2⟩
        have HB2 := Lib.hid (bThen HB.out hb2)
        clear hb2 HB e0 e1 e2 e3
        obtain ⟨q, hq⟩ : ∃ q : Bool, (cmpI xn t == 0) = q := ⟨_, rfl⟩
        have hq2 : (xn == t) = q := by
          rw [← hq, Bool.eq_iff_iff]; simp only [beq_iff_eq]; exact cmpI_eq.symm
        have HQ := Lib.hid hq2
        clear hq2
        go_wp2_with fail
        go_ret2
        exact ⟨i, by rw [Hn.out]; omega, by rw [HF.out, HQ.out]; rfl, ⟨H1.out, H2.out⟩, HB2.out⟩
      · have hfd : fndC l i t = false := by unfold fndC; rw [List.getElem?_eq_none (by rw [Hn.out]; omega)]
        have HF := Lib.hid hfd
        clear hfd
        go_wp2_with fail
        go_ret2
        exact ⟨i, by rw [Hn.out]; omega, by rw [HF.out]; rfl, ⟨H1.out, H2.out⟩, HB.out⟩
end Go.Proofs.Ytdanfeldbdooeaa
