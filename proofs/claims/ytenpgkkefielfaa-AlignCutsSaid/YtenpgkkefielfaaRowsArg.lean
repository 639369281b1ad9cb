/-
  What a slice of structs that came in is.
-/
import Derived.Test.YtenpgkkefielfaaRowsK
import Derived.Test.YtenpgkkefielfaaFrame
import Derived.ProofKit
import Derived.OpenShut
import Derived.ShutString
import Derived.ChangeOld
import Derived.Deep.Slices
namespace Go.Proofs.Ytenpgkkefielfaa
open Go.ChangeShapes Go.WideShapes Go.ChangeAt Go.RowKit Go.Deep

def wfL (a : Int) : Prop := -9223372036854775808 ≤ a ∧ a ≤ 9223372036854775807
theorem exists_list {α : Type} {P : Nat → α → Prop} : ∀ n : Nat, (∀ i, i < n → ∃ x, P i x) → ∃ l : List α, l.length = n ∧ ∀ i x, l[i]? = some x → P i x
  | 0, _ => ⟨[], rfl, fun i x h => by simp at h⟩
  | n + 1, h => by
    obtain ⟨l, hl, hP⟩ := exists_list n (fun i hi => h i (by omega))
    obtain ⟨x, hx⟩ := h n (by omega)
    refine ⟨l ++ [x], by simp [hl], fun i y hy => ?_⟩
    rcases Nat.lt_or_ge i l.length with h1 | h1
    · rw [List.getElem?_append_left h1] at hy; exact hP i y hy
    · rw [List.getElem?_append_right h1] at hy
      rcases Nat.eq_zero_or_pos (i - l.length) with h2 | h2
      · rw [h2] at hy; simp at hy; subst hy
        rw [show i = n by omega]; exact hx
      · rw [List.getElem?_eq_none (by simp; omega)] at hy; simp at hy
theorem spot_none {W : World} {a : Addr} {v : Value} (h : W.cell? a = some v) : a = ⟨a.block, a.off, none⟩ := by
  unfold World.cell? at h
  obtain ⟨b, o, s⟩ := a
  cases hh : W.heap[b]? with
  | none => simp only [hh] at h; cases h
  | some ob =>
    simp only [hh] at h
    cases ob with
    | cells c t f =>
      cases s with
      | none => rfl
      | some s => simp at h
    | _ => cases h
theorem add_at (b o i : Nat) : (⟨b, o, none⟩ : Addr).add i = ⟨b, o + i, none⟩ := by
  unfold Addr.add
  split
  · rename_i h; subst h; rfl
  · rfl
section
variable {H : Type} {enc : TypeId × Value → H} {W : World} {base : Nat} {spare : Nat → Bool} {held : Bool}
theorem open_rows {α : Type} {encE : α → List Value} {k : Nat} {Q : α → Prop} {t e : TypeId} {fuel : Nat} {c : Value} {y : DataW H × List MemPlace} (ht : Try.prog.underlying t = some (.slice e)) (hk : Try.prog.cellsOf e = k) (hk0 : 0 < k) (hke : ∀ x, (encE x).length = k)
    (he : ∀ {n : Nat} {cs : List Value} {z : DataW H × List MemPlace}, DataW.trod enc Try.prog W base spare held n e cs = some z → cs.length = k → ∃ x, cs = encE x ∧ Q x)
    (h : DataW.trod enc Try.prog W base spare held fuel t [c] = some y) : ∃ l : List α, Row encE k W c l ∧ (∀ x ∈ l, Q x) ∧ l.length ≤ maxLen := by
  rcases open_slice ht h with ⟨hc, -⟩ | ⟨a, len, cap, m, n, D, Pl, hc, hb, hl, hm, hmm, -, hi⟩
  · simp at hc; subst hc
    exact ⟨[], Row.none_, fun x hx => by simp at hx, by simp⟩
  · simp at hc; subst hc
    rw [hk] at hi
    have hml : len ≤ m := by rw [hmm]; split <;> omega
    obtain ⟨l, hll, hP⟩ := exists_list (α := α) (P := fun i x => Q x ∧ W.cells? base (a.add (i * k)) k = some (encE x)) len (fun i him => by
      obtain ⟨cs', h1, h2⟩ := hi i (by omega)
      obtain ⟨x, rfl, hq⟩ := he h2 (World.cells?_some h1).2.1
      exact ⟨x, hq, h1⟩)
    refine ⟨l, ⟨some a, cap, by rw [hll], by omega, fun hl0 => ?_⟩, fun x hx => ?_, by omega⟩
    · obtain ⟨x0, h0⟩ : ∃ x, l[0]? = some x := ⟨_, List.getElem?_eq_getElem hl0⟩
      have h1 := (World.cells?_some (hP 0 x0 h0).2).2.2 0 hk0
      rw [List.getElem?_eq_getElem (by rw [hke]; exact hk0)] at h1
      have ha : a = ⟨a.block, a.off, none⟩ := by
        have := spot_none h1
        simpa [Addr.add] using this
      have hbl := cell_lt h1
      refine ⟨a.block, a.off, by rw [← ha], by simpa [Addr.add] using hbl, fun i x j u hx hu => ?_⟩
      have h2 := (World.cells?_some (hP i x hx).2).2.2 j (by rw [← hke x]; exact (List.getElem?_eq_some_iff.1 hu).1)
      rw [hu, ha, add_at, add_at] at h2
      exact h2
    · obtain ⟨i, hi'⟩ := List.getElem?_of_mem hx
      exact (hP i x hi').1
end
end Go.Proofs.Ytenpgkkefielfaa
