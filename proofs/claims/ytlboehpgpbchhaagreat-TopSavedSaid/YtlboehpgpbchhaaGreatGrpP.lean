/-
  The bytes of a group, of a pane; groups that may be: plain.
-/
import Derived.Test.YtlboehpgpbchhaaGreatGrpW2
set_option linter.unusedVariables false
set_option linter.unusedSimpArgs false
namespace Go.Proofs.YtlboehpgpbchhaaGreat
open Go.RowKit

def BXO (bb n c : Nat) (A : Option Addr) (l : List UInt8) (W : World) : Prop := W.heap[bb]? = some (.cells #[.slice A n c] 88 (0, 0)) ∧ W.ownsRow (bb + 1) 5 1 (.slice A n c) n (Lib.byteCells l)
theorem BXO.below {bb n c : Nat} {A : Option Addr} {l : List UInt8} {W W' : World} (h : BXO bb n c A l W) (hb : Below W.heap.size W W') : BXO bb n c A l W' := ⟨heap_below h.1 hb, own_below h.2 hb⟩
theorem BXO.hp {bb n c : Nat} {A : Option Addr} {l : List UInt8} {W : World} (h : BXO bb n c A l W) : W.heap[bb]? = some (.cells #[.slice A n c] 88 (0, 0)) := h.1
theorem BXO.own {bb n c : Nat} {A : Option Addr} {l : List UInt8} {W : World} (h : BXO bb n c A l W) : W.ownsRow (bb + 1) 5 1 (.slice A n c) n (Lib.byteCells l) := h.2
theorem BXO.cl {bb n c : Nat} {A : Option Addr} {l : List UInt8} {W : World} (h : BXO bb n c A l W) : W.cell? ⟨bb, 0, none⟩ = some (.slice A n c) := cellsAt h.1 0
theorem boxCl {W : World} {b : Nat} {v : Value} {T : TypeId} (h : W.heap[b]? = some (.cells #[v] T (0, 0))) : W.cell? ⟨b, 0, none⟩ = some v := cellsAt h 0
theorem boxFz {W : World} {b : Nat} {v : Value} {T : TypeId} (h : W.heap[b]? = some (.cells #[v] T (0, 0))) : W.frozen? ⟨b, 0, none⟩ = false := frozAt h 0
theorem notU8 {cs' : Array Value} {T : TypeId} (hT : T ≠ 5) : ∀ cs, Obj.cells cs' T (0, 0) ≠ .cells cs 5 (0, 0) := fun cs e => hT (by injection e)
theorem OtK.drew {bb : Nat} {a b : World} (h : OtK bb a b) : OtK bb a b.drew := ⟨Below.drew h.low, h.oth⟩
/-- A pane's bytes, a group's. -/
def pnB1 (p : Pn) : List UInt8 := dig p.k.size ++ p.k.data.toList
def pnB2 (p : Pn) : List UInt8 := [p.lo, p.hi, p.n].flatMap kNum
def pnB3 (p : Pn) : List UInt8 := dig (zz p.a) ++ dig (zz p.b)
def pnBs (p : Pn) : List UInt8 := pnB1 p ++ (pnB2 p ++ pnB3 p)
def grBs (no m : Int) (l : List Pn) : List UInt8 := [no, m, (l.length : Int)].flatMap kNum ++ l.flatMap pnBs
/-- Panes that may be written. -/
def PnOk (p : Pn) : Prop := p.k.size ≤ 16 ∧ 0 ≤ p.lo ∧ p.lo ≤ 1099511627776 ∧ 0 ≤ p.hi ∧ p.hi ≤ 1099511627776 ∧ 1 ≤ p.n ∧ p.n ≤ 9223372036854775807 ∧ i64B p.a ∧ i64B p.b
theorem dig_le {n : Nat} (h : n < 18446744073709551616) : (dig n).length ≤ 10 := by
  rw [dig_length]
  have := cnt_le h
  omega
theorem pnBs_le {p : Pn} (h : PnOk p) : (pnBs p).length ≤ 76 := by
  obtain ⟨h1, h2, h3, h4, h5, h6, h7, h8, h9⟩ := h
  unfold pnBs pnB1 pnB2 pnB3
  have a1 := dig_le (n := p.k.size) (by omega)
  have a2 := kNums_le (ns := [p.lo, p.hi, p.n]) (by simp; omega)
  have a3 := dig_le (zz_lt h8.1 h8.2)
  have a4 := dig_le (zz_lt h9.1 h9.2)
  have a5 : p.k.data.toList.length = p.k.size := Array.length_toList
  simp only [List.length_append, List.length_cons, List.length_nil] at a2 ⊢
  omega
theorem pnBss_le : ∀ {l : List Pn}, (∀ p ∈ l, PnOk p) → (l.flatMap pnBs).length ≤ 76 * l.length
  | [], _ => by simp
  | p :: l, h => by
    have h1 := pnBs_le (h p (by simp))
    have h2 := pnBss_le (l := l) (fun q hq => h q (by simp [hq]))
    rw [List.flatMap_cons, List.length_append, List.length_cons]
    omega
theorem pm_ok {p : Pn} (h : pmB p = true) (hw : p.Wf) : PnOk p := by
  unfold pmB at h
  simp only [Bool.and_eq_true, decide_eq_true_eq] at h
  obtain ⟨⟨⟨⟨⟨-, h1⟩, h2⟩, h3⟩, h4⟩, h5⟩ := h
  exact ⟨h1, h2, by omega, by omega, h4, h5, hw.2.2.2.1.2, hw.2.2.2.2.1, hw.2.2.2.2.2⟩
theorem pr_pm {l : List Pn} (h : prB l = true) : ∀ p ∈ l, pmB p = true := by
  intro p hp
  unfold prB at h
  simp only [Bool.and_eq_true, decide_eq_true_eq, List.all_eq_true] at h
  obtain ⟨i, hi, he⟩ := List.getElem_of_mem hp
  have := h.2 i (List.mem_range.2 hi)
  unfold pokAt at this
  simp only [Bool.and_eq_true] at this
  rw [pn_get (p := p) (by rw [List.getElem?_eq_getElem hi, he])] at this
  exact this.1
theorem gr_pr {no m : Int} {l : List Pn} (h : grR no m l = true) : 0 ≤ no ∧ no < 32 ∧ 0 ≤ m ∧ m ≤ 1099511627776 ∧ prB l = true ∧ l.length ≤ 2000 := by
  unfold grR at h
  simp only [Bool.and_eq_true, decide_eq_true_eq] at h
  obtain ⟨⟨⟨⟨⟨h1, h2⟩, h3⟩, h4⟩, h5⟩, -⟩ := h
  refine ⟨h1, h2, h3, h4, h5, ?_⟩
  unfold prB at h5
  simp only [Bool.and_eq_true, decide_eq_true_eq] at h5
  exact h5.1
end Go.Proofs.YtlboehpgpbchhaaGreat
