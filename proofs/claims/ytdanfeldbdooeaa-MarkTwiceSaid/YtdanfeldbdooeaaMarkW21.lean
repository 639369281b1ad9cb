/-
  WORDS of layer 10: rows that no box of marks holds; Set and Idle of the program, whatever is asked.
-/
import Derived.Test.YtdanfeldbdooeaaMarkW14
import Derived.Test.YtdanfeldbdooeaaMarkW15
import Derived.Test.YtdanfeldbdooeaaMarkW18
import Derived.Test.YtdanfeldbdooeaaMarkW19
import Derived.Test.YtdanfeldbdooeaaMarkW20
set_option linter.unusedVariables false
set_option linter.unusedSimpArgs false
namespace Go.Proofs.Ytdanfeldbdooeaa
open Go.RowKit

theorem Row.keepNe {α : Type} {enc : α → List Value} {k : Nat} {W W' : World} {v : Value} {l : List α} (h : Row enc k W v l) {g : Nat} (hne : ∀ b o c, v = .slice (some ⟨b, o, none⟩) l.length c → 0 < l.length → b ≠ g)
    (hk : ∀ p : Addr, p.block ≠ g → W'.cell? p = W.cell? p) (hs : W.heap.size ≤ W'.heap.size) : Row enc k W' v l := by
  obtain ⟨A, c, e, hc, h⟩ := h
  refine ⟨A, c, e, hc, fun hl => ?_⟩
  obtain ⟨b, o, ha, hb, hx⟩ := h hl
  exact ⟨b, o, ha, by omega, fun i x j u h1 h2 => (hk _ (hne b o c (by rw [e, ha]) hl)).trans (hx i x j u h1 h2)⟩
theorem cell_setC3 (w : World) (g : Nat) (a b c : Value) (p : Addr) (hp : p.block ≠ g) : (((w.setCell ⟨g, 0, none⟩ a).setCell ⟨g, 1, none⟩ b).setCell ⟨g, 2, none⟩ c).cell? p = w.cell? p := by
  have h1 : ∀ (w : World) (i : Nat) (u : Value), (w.setCell ⟨g, i, none⟩ u).cell? p = w.cell? p := fun w i u => World.cell?_of_block (Below.heap_setCell w ⟨g, i, none⟩ u p.block (fun e => hp (by simpa using e)))
  rw [h1, h1, h1]
theorem size_setC3 (w : World) (g : Nat) (a b c : Value) : w.heap.size ≤ (((w.setCell ⟨g, 0, none⟩ a).setCell ⟨g, 1, none⟩ b).setCell ⟨g, 2, none⟩ c).heap.size := by simp
section
variable {W : World} {g : Nat} {a2 a3 : Option Addr} {n2 c2 n3 c3 : Nat} {q : Int} {T : TypeId}
theorem mbox_kind {j : Nat} {u : Value} (hz : W.heap[g]? = some (.cells #[.slice a2 n2 c2, .slice a3 n3 c3, .int .i64 q] T (0, 0))) (h : W.cell? ⟨g, j, none⟩ = some u) : (∀ b, u ≠ .bool b) ∧ (∀ i, u = .int .i64 i → j = 2) ∧ j ≤ 2 := by
  rw [cellsAt hz] at h
  match j, h with
  | 0, h => simp at h; subst h; exact ⟨(fun b e => by cases e), (fun b e => by cases e), by omega⟩
  | 1, h => simp at h; subst h; exact ⟨(fun b e => by cases e), (fun b e => by cases e), by omega⟩
  | 2, h => simp at h; subst h; exact ⟨(fun b e => by cases e), (fun b e => rfl), by omega⟩
  | j + 3, h => simp at h
theorem keepI {v : Value} {l : List Inp} (hz : W.heap[g]? = some (.cells #[.slice a2 n2 c2, .slice a3 n3 c3, .int .i64 q] T (0, 0))) (a b c : Value) (h : Row Inp.cs 2 W v l) : Row Inp.cs 2 (((W.setCell ⟨g, 0, none⟩ a).setCell ⟨g, 1, none⟩ b).setCell ⟨g, 2, none⟩ c) v l := by
  refine h.keepNe (g := g) ?_ (fun p hp => cell_setC3 W g a b c p hp) (size_setC3 W g a b c)
  rintro b o c rfl hl rfl
  obtain ⟨b', o', c', e, -, -, hx⟩ := h.at_ (List.getElem?_eq_getElem hl)
  injection e with e
  injection e with e
  injection e with e1 e2
  subst e1 e2
  exact (mbox_kind hz (hx 1 _ rfl)).1 _ rfl
theorem keepH {v : Value} {l : List Hld} (hz : W.heap[g]? = some (.cells #[.slice a2 n2 c2, .slice a3 n3 c3, .int .i64 q] T (0, 0))) (a b c : Value) (h : Row Hld.cs 2 W v l) : Row Hld.cs 2 (((W.setCell ⟨g, 0, none⟩ a).setCell ⟨g, 1, none⟩ b).setCell ⟨g, 2, none⟩ c) v l := by
  refine h.keepNe (g := g) ?_ (fun p hp => cell_setC3 W g a b c p hp) (size_setC3 W g a b c)
  rintro b o c rfl hl rfl
  obtain ⟨b', o', c', e, -, -, hx⟩ := h.at_ (List.getElem?_eq_getElem hl)
  injection e with e
  injection e with e
  injection e with e1 e2
  subst e1 e2
  have h1 := (mbox_kind hz (hx 0 _ rfl)).2.1 _ rfl
  have h2 := (mbox_kind hz (hx 1 _ rfl)).2.2
  omega
end
theorem mset_any (li : List Inp) (lh : List Hld) (o i t : Int) (v : Value) (w : World) (h : MarksAt w v li lh o) : Calls Try.prog 18 #[v, .int .i64 i, .int .i64 t] w (MksTo (setM li lh o i t) w) := by
  unfold setM
  by_cases hin : inM li lh o i = true
  · rw [if_pos hin]
    unfold inM at hin
    simp only [Bool.and_eq_true, decide_eq_true_eq] at hin
    obtain ⟨hr, h0, h1⟩ := hin
    obtain ⟨N, rfl⟩ : ∃ N : Nat, i = N := ⟨i.toNat, by omega⟩
    obtain ⟨x, hx⟩ : ∃ x, li[N]? = some x := ⟨_, List.getElem?_eq_getElem (by omega)⟩
    have hp := right_holds hr
    rw [Int.toNat_natCast, inAt_get hx]
    exact set_yes li lh o t N x hx v w h hr (by omega) (by omega)
  · rw [if_neg hin]
    exact set_no li lh o i t v w h (by unfold inM at hin; simpa using hin)
theorem midle_any (li : List Inp) (lh : List Hld) (o i : Int) (v : Value) (w : World) (h : MarksAt w v li lh o) : Calls Try.prog 19 #[v, .int .i64 i] w (MksTo (idleM li lh o i) w) := by
  unfold idleM
  by_cases hin : inM li lh o i = true
  · rw [if_pos hin]
    unfold inM at hin
    simp only [Bool.and_eq_true, decide_eq_true_eq] at hin
    obtain ⟨hr, h0, h1⟩ := hin
    obtain ⟨N, rfl⟩ : ∃ N : Nat, i = N := ⟨i.toNat, by omega⟩
    obtain ⟨x, hx⟩ : ∃ x, li[N]? = some x := ⟨_, List.getElem?_eq_getElem (by omega)⟩
    have hp := right_holds hr
    rw [Int.toNat_natCast, inAt_get hx]
    exact idle_yes li lh o N x hx v w h hr (by omega) (by omega)
  · rw [if_neg hin]
    exact idle_no li lh o i v w h (by unfold inM at hin; simpa using hin)
/-- What an act makes. -/
def doM (li : List Inp) (lh : List Hld) (o what no t : Int) : Mks := if what = 0 then setM li lh o no t else if what = 1 then idleM li lh o no else if what = 2 then holdM li lh o no t else freeM li lh o no
def DoTo (m : Mks) (w : World) (e : Ending) (w' : World) : Prop :=
  ∃ vi vh ui uh, e = .returned (.tuple #[.agg #[vi, vh, .int .i64 m.o], .int .i64 m.er, .agg #[ui, uh, .int .i64 m.o], .int .i64 m.er]) ∧ Row Inp.cs 2 w' vi m.li ∧ Row Hld.cs 2 w' vh m.lh ∧ Row Inp.cs 2 w' ui m.li ∧ Row Hld.cs 2 w' uh m.lh ∧ Below w.heap.size w w'
end Go.Proofs.Ytdanfeldbdooeaa
