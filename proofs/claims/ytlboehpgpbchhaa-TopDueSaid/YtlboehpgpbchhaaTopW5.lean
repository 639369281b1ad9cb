/-
  WALKS of the top laws: panes: which may be, which stands ahead.
-/
import Derived.Test.YtlboehpgpbchhaaTopW4
import Derived.Deep.RegionLaw
set_option linter.unusedVariables false
set_option linter.unusedSimpArgs false
namespace Go.Proofs.Ytlboehpgpbchhaa
open Go.RowKit

/-- A pane. -/
structure Pn where
  lo : Int
  hi : Int
  k : ByteArray
  n : Int
  a : Int
  b : Int
def Pn.cs (p : Pn) : List Value := [.int .i64 p.lo, .int .i64 p.hi, .string p.k, .int .i64 p.n, .int .i64 p.a, .int .i64 p.b]
def Pn.val (p : Pn) : Value := .agg #[.int .i64 p.lo, .int .i64 p.hi, .string p.k, .int .i64 p.n, .int .i64 p.a, .int .i64 p.b]
theorem Pn.cs_len (p : Pn) : p.cs.length = 6 := rfl
def Pn.Wf (p : Pn) : Prop := i64B p.lo ∧ i64B p.hi ∧ p.k.size ≤ maxLen ∧ i64B p.n ∧ i64B p.a ∧ i64B p.b
def pmB (p : Pn) : Bool := !p.k.toList.isEmpty && decide (p.k.size ≤ 16) && decide (0 ≤ p.lo) && decide (p.lo < p.hi) && decide (p.hi ≤ 1099511627776) && decide (1 ≤ p.n)
set_option maxRecDepth 100000 in
theorem pmay_any (p : Pn) (w : World) (h : p.k.size ≤ maxLen) : Calls Try.prog 64 #[p.val] w fun e w' => e = .returned (.bool (pmB p)) ∧ Below w.heap.size w w' := by
  obtain ⟨lo, hi, k, n, a, b⟩ := p
  unfold maxLen at h
  unfold Pn.val
  simp only at h ⊢
  go_enter Try.func64, Try.ntmps64
  go_wp2
  all_goals
    go_ret
    refine ⟨congrArg (fun b => Ending.returned (Value.bool b)) (?_ : _ = pmB _), bel_alloc (Below.refl _ _) _⟩
    rw [Bool.eq_iff_iff]
    simp [pmB, *]
    try omega
def cmpI (a b : Int) : Int := if a < b then -1 else if b < a then 1 else 0
def cmpS (a b : ByteArray) : Int := if Op.bytesLess a.toList b.toList = true then -1 else if (!a.toList == b.toList) = true then 1 else 0
def orI (a b c : Int) : Int := if a ≠ 0 then a else if b ≠ 0 then b else c
def cmpP (p q : Pn) : Int := orI (cmpI p.hi q.hi) (cmpI p.lo q.lo) (cmpS p.k q.k)
theorem cmpI_bd (a b : Int) : -1 ≤ cmpI a b ∧ cmpI a b ≤ 1 := by unfold cmpI; (repeat' split) <;> omega
theorem cmpS_bd (a b : ByteArray) : -1 ≤ cmpS a b ∧ cmpS a b ≤ 1 := by unfold cmpS; (repeat' split) <;> omega
theorem cmpi_any (a b : Int) (w : World) : Calls Try.prog 80 #[.int .i64 a, .int .i64 b] w fun e w' => e = .returned (.int .i64 (cmpI a b)) ∧ w' = w := by
  go_enter Try.func80, Try.ntmps80
  go_wp2
  all_goals
    go_ret
    refine ⟨congrArg (fun b => Ending.returned (Value.int .i64 b)) (?_ : _ = cmpI a b), rfl⟩
    unfold cmpI
    (repeat' split) <;> omega
theorem cmps_any (a b : ByteArray) (w : World) : Calls Try.prog 81 #[.string a, .string b] w fun e w' => e = .returned (.int .i64 (cmpS a b)) ∧ w' = w := by
  go_enter Try.func81, Try.ntmps81
  go_wp2
  all_goals
    go_ret
    refine ⟨congrArg (fun b => Ending.returned (Value.int .i64 b)) (?_ : _ = cmpS a b), rfl⟩
    unfold cmpS
    simp only [*, if_true, if_false, Bool.false_eq_true]
def OrRel (a b c : Int) (i : Value) : Prop := ∃ k : Nat, k ≤ 3 ∧ i = .int .i64 k ∧ (0 < k → a = 0) ∧ (1 < k → b = 0) ∧ (2 < k → c = 0)
theorem or_any (a b c : Int) (b0 : Nat) (T : TypeId) (w : World) (h : w.heap[b0]? = some (.cells #[.int .i64 a, .int .i64 b, .int .i64 c] T (0, 0))) : Calls Try.prog 79 #[.slice (some ⟨b0, 0, none⟩) 3 3] w fun e w' => e = .returned (.int .i64 (orI a b c)) ∧ w' = w := by
  have z := blk_lt h
  have x0 := cellsAt h 0
  have x1 := cellsAt h 1
  have x2 := cellsAt h 2
  simp at x0 x1 x2
  go_enter Try.func79, Try.ntmps79
  go_wp2_with fail
  go_loop [8] (fun i => OrRel a b c i) (fun i => 3 - (intOf i).toNat)
  case atStart => exact ⟨0, by omega, rfl, by simp, by simp, by simp⟩
  case round =>
    obtain ⟨k, hk, rfl, h0, h1, h2⟩ := hrel
    have H0 := Lib.hid h0
    have H1 := Lib.hid h1
    have H2 := Lib.hid h2
    clear h0 h1 h2
    obtain rfl | rfl | rfl | rfl : k = 0 ∨ k = 1 ∨ k = 2 ∨ k = 3 := by omega
    · by_cases h : a = 0
      · subst h
        go_wp2_with fail
        go_round
        case rel => exact ⟨1, by omega, by go_num, fun _ => rfl, by simp, by simp⟩
        case measure => simp [intOf]
      · have d1 : (a == 0) = false := by simpa using h
        have d2 : (a != 0) = true := by simpa using h
        go_wp2_with fail
        go_ret
        exact ⟨congrArg (fun b => Ending.returned (Value.int .i64 b)) (by unfold orI; rw [if_pos h]), rfl⟩
    · have ha := H0.out (by omega)
      subst ha
      by_cases h : b = 0
      · subst h
        go_wp2_with fail
        go_round
        case rel => exact ⟨2, by omega, by go_num, fun _ => rfl, fun _ => rfl, by simp⟩
        case measure => simp [intOf]
      · have d1 : (b == 0) = false := by simpa using h
        have d2 : (b != 0) = true := by simpa using h
        go_wp2_with fail
        go_ret
        exact ⟨congrArg (fun b => Ending.returned (Value.int .i64 b)) (by unfold orI; simp [h]), rfl⟩
    · have ha := H0.out (by omega)
      have hb := H1.out (by omega)
      subst ha hb
      by_cases h : c = 0
      · subst h
        go_wp2_with fail
        go_round
        case rel => exact ⟨3, by omega, by go_num, fun _ => rfl, fun _ => rfl, fun _ => rfl⟩
        case measure => simp [intOf]
      · have d1 : (c == 0) = false := by simpa using h
        have d2 : (c != 0) = true := by simpa using h
        go_wp2_with fail
        go_ret
        exact ⟨congrArg (fun b => Ending.returned (Value.int .i64 b)) (by unfold orI; simp), rfl⟩
    · have ha := H0.out (by omega)
      have hb := H1.out (by omega)
      have hc := H2.out (by omega)
      subst ha hb hc
      go_wp2_with fail
      go_ret
      exact ⟨congrArg (fun b => Ending.returned (Value.int .i64 b)) (by unfold orI; simp), rfl⟩
end Go.Proofs.Ytlboehpgpbchhaa
