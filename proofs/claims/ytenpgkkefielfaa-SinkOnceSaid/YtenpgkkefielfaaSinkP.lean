/-
  PLAIN: which sinks may be: the program's way and the document's way are one.
-/
import Derived.Test.YtenpgkkefielfaaSinkW3
set_option linter.unusedVariables false
set_option linter.unusedSimpArgs false
namespace Go.Proofs.Ytenpgkkefielfaa

def prevS (last : Int) (st : List Stg) (k : Nat) : Int := if k = 0 then last else st[k - 1]!.n
def stAt (last : Int) (st : List Stg) (k : Nat) : Bool := decide (prevS last st k < st[k]!.n) && (decide (st[k]!.n ≤ 1073741824) && allB st[k]!.l)
def headS (op : List Res) (st : List Stg) (last : Int) (out : List Res) : Bool :=
  decide (0 ≤ last) && (decide (last ≤ 1073741824) && (decide (st.length ≤ 8) && (decide (cntS op st out ≤ 20000) && (allB op && allB out))))
def rightS (op : List Res) (st : List Stg) (last : Int) (out : List Res) : Bool := headS op st last out && (List.range st.length).all (stAt last st)
def sumTo (st : List Stg) (n : Int) : Nat → Int
  | 0 => n
  | k + 1 => sumTo st n k + (st[k]!.l.length : Int)
theorem sumTo_lo (st : List Stg) (n : Int) (h : 0 ≤ n) : ∀ k, n ≤ sumTo st n k
  | 0 => Int.le_refl _
  | k + 1 => by have := sumTo_lo st n h k; show n ≤ sumTo st n k + (st[k]!.l.length : Int); omega
theorem sumTo_mono (st : List Stg) (n : Int) (k : Nat) : ∀ j, sumTo st n k ≤ sumTo st n (k + j)
  | 0 => Int.le_refl _
  | j + 1 => by have := sumTo_mono st n k j; show sumTo st n k ≤ sumTo st n (k + j) + (st[k + j]!.l.length : Int); omega
theorem cnt_sum (st : List Stg) (a b : Nat) : ∀ k, (cntTo st (capN a + capN b) k ≤ 20000 → cntTo st (capN a + capN b) k = sumTo st ((a : Int) + b) k) ∧ (sumTo st ((a : Int) + b) k ≤ 20000 → cntTo st (capN a + capN b) k = sumTo st ((a : Int) + b) k)
  | 0 => by
    show (capN a + capN b ≤ 20000 → capN a + capN b = (a : Int) + b) ∧ ((a : Int) + b ≤ 20000 → capN a + capN b = (a : Int) + b)
    unfold capN; omega
  | k + 1 => by
    obtain ⟨h1, h2⟩ := cnt_sum st a b k
    have h3 := sumTo_lo st ((a : Int) + b) (by omega) k
    have h4 := (cntTo_bd st (capN a + capN b) (by unfold capN; omega) (by unfold capN; omega) k).1
    show (capN (cntTo st (capN a + capN b) k) + capN (st[k]!.l.length : Int) ≤ 20000 → capN (cntTo st (capN a + capN b) k) + capN (st[k]!.l.length : Int) = sumTo st ((a : Int) + b) k + (st[k]!.l.length : Int)) ∧ (sumTo st ((a : Int) + b) k + (st[k]!.l.length : Int) ≤ 20000 → capN (cntTo st (capN a + capN b) k) + capN (st[k]!.l.length : Int) = sumTo st ((a : Int) + b) k + (st[k]!.l.length : Int))
    generalize cntTo st (capN a + capN b) k = x at *
    generalize sumTo st ((a : Int) + b) k = y at *
    unfold capN
    omega
/-- The lengths that a count within bounds leaves. -/
theorem cnt_lens {op : List Res} {st : List Stg} {out : List Res} (h : cntS op st out ≤ 20000) : op.length ≤ 20000 ∧ out.length ≤ 20000 ∧ (∀ k, k < st.length → st[k]!.l.length ≤ 20000) ∧ cntS op st out = sumTo st ((op.length : Int) + out.length) st.length := by
  have e := (cnt_sum st op.length out.length st.length).1 h
  have h0 := sumTo_lo st ((op.length : Int) + out.length) (by omega) st.length
  unfold cntS at h ⊢
  refine ⟨by omega, by omega, fun k hk => ?_, e⟩
  have h1 := sumTo_mono st ((op.length : Int) + out.length) (k + 1) (st.length - (k + 1))
  rw [show k + 1 + (st.length - (k + 1)) = st.length by omega] at h1
  have h2 := sumTo_lo st ((op.length : Int) + out.length) (by omega) k
  have h3 : sumTo st ((op.length : Int) + out.length) (k + 1) = sumTo st ((op.length : Int) + out.length) k + (st[k]!.l.length : Int) := rfl
  omega
/-- The document's way: how many there may still be. -/
def roomGo (st : List Stg) (room : Int) (k : Nat) : Int := room - (sumTo st 0 k)
theorem sumTo_shift (st : List Stg) (n : Int) : ∀ k, sumTo st n k = n + sumTo st 0 k
  | 0 => by show n = n + 0; omega
  | k + 1 => by have := sumTo_shift st n k; show sumTo st n k + (st[k]!.l.length : Int) = n + (sumTo st 0 k + (st[k]!.l.length : Int)); omega
def roomS (op : List Res) (st : List Stg) (last : Int) (out : List Res) : Int × Bool :=
  if rightS op st last out then (20000 - sumTo st ((op.length : Int) + out.length) st.length, true) else (0, false)
end Go.Proofs.Ytenpgkkefielfaa
