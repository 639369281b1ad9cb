/-
  WORDS: a slice of structs that reads as a list; cells of a block.
-/
import Derived.Test.YtenpgkkefielfaaProg
import Derived.WalkKit
import Derived.WalkSpells
import Derived.WalkLawsBesides
import Derived.Lib.Walk
import Derived.Lib.Hide
import Derived.Below
import Derived.Outline
import Derived.Deep.QuietTactic
import Derived.BigQuiet
import Derived.Deep.RegionWith
import Derived.Deep.RegionHeld3
import Derived.RegionTactic
import Derived.StillTailTactics
import Derived.Laws.OwnMore
namespace Go.Proofs.Ytenpgkkefielfaa
open Go.RowKit

theorem bel_alloc {w w' : World} (h : Below w.heap.size w w') (o : Obj) : Below w.heap.size w (w'.alloc o) := h.alloc h.size _
theorem belA {w w1 w2 : World} (h : Below w.heap.size w w1) {o : Obj} (hb : Below (w1.alloc o).heap.size (w1.alloc o) w2) : Below w.heap.size w w2 := (bel_alloc h o).trans (hb.mono (bel_alloc h o).size)
theorem newA {w1 w2 : World} {o : Obj} (hb : Below (w1.alloc o).heap.size (w1.alloc o) w2) : w2.heap[w1.heap.size]? = some o := (hb.block w1.heap.size (by simp)).trans (heap_alloc_new w1 _)
theorem bThen {w a b : World} (h : Below w.heap.size w a) (k : Below a.heap.size a b) : Below w.heap.size w b := h.trans (k.mono h.size)
theorem bDrewN {B : Nat} {a w : World} (h : Below B a w) {n : Nat} : Below B a (w.drewN n) := ⟨h.os, h.tape, h.output, h.size, h.block⟩
theorem cellsAt {W : World} {g : Nat} {cs : Array Value} {T : TypeId} (h : W.heap[g]? = some (.cells cs T (0, 0))) (j : Nat) : W.cell? ⟨g, j, none⟩ = cs[j]? := Lib.cell_of_heap h j
theorem frozAt {W : World} {g : Nat} {cs : Array Value} {T : TypeId} (h : W.heap[g]? = some (.cells cs T (0, 0))) (j : Nat) : W.frozen? ⟨g, j, none⟩ = false := by simp [World.frozen?, h]
theorem blk_lt {W : World} {g : Nat} {o : Obj} (h : W.heap[g]? = some o) : g < W.heap.size := (Array.getElem?_eq_some_iff.1 h).1
theorem cell_lt {W : World} {p : Addr} {v : Value} (h : W.cell? p = some v) : p.block < W.heap.size := by
  unfold World.cell? at h
  cases hh : W.heap[p.block]? with
  | none => rw [hh] at h; simp at h
  | some o => exact blk_lt hh

/-- A slice that reads as a list of structs of k cells each. -/
def Row {α : Type} (enc : α → List Value) (k : Nat) (W : World) (v : Value) (l : List α) : Prop :=
  ∃ (A : Option Addr) (c : Nat), v = .slice A l.length c ∧ l.length ≤ c ∧ (0 < l.length → ∃ b o, A = some ⟨b, o, none⟩ ∧ b < W.heap.size ∧ ∀ i x j u, l[i]? = some x → (enc x)[j]? = some u → W.cell? ⟨b, o + i * k + j, none⟩ = some u)
section
variable {α : Type} {enc : α → List Value} {k : Nat} {W W' : World} {v : Value} {l : List α}
theorem Row.keep (h : Row enc k W v l) (hb : ∀ p : Addr, p.block < W.heap.size → W'.cell? p = W.cell? p) (hs : W.heap.size ≤ W'.heap.size) : Row enc k W' v l := by
  obtain ⟨A, c, e, hc, h⟩ := h
  refine ⟨A, c, e, hc, fun hl => ?_⟩
  obtain ⟨b, o, ha, hb', hx⟩ := h hl
  exact ⟨b, o, ha, by omega, fun i x j u h1 h2 => (hb _ hb').trans (hx i x j u h1 h2)⟩
theorem Row.below (h : Row enc k W v l) (hb : Below W.heap.size W W') : Row enc k W' v l := h.keep (fun _ hp => hb.cell hp) hb.size
theorem Row.alloc (h : Row enc k W v l) (o : Obj) : Row enc k (W.alloc o) v l := h.below (bel_alloc (Below.refl _ _) o)
theorem Row.drewN (h : Row enc k W v l) (n : Nat) : Row enc k (W.drewN n) v l := h
theorem Row.drew (h : Row enc k W v l) : Row enc k W.drew v l := h
theorem Row.none_ : Row enc k W (.slice none 0 0) ([] : List α) := ⟨none, 0, rfl, Nat.le_refl _, fun h => absurd h (by simp)⟩
theorem Row.lt {b o c : Nat} (h : Row enc k W v l) (hv : v = .slice (some ⟨b, o, none⟩) l.length c) (hl : 0 < l.length) : b < W.heap.size := by
  obtain ⟨A, c', e, hc, h⟩ := h
  obtain ⟨b', o', ha, hb', hx⟩ := h hl
  rw [e] at hv
  injection hv with h1 h2 h3
  rw [ha] at h1
  injection h1 with h1
  injection h1 with h1
  omega
/-- The cells of an element. -/
theorem Row.at_ (h : Row enc k W v l) {i : Nat} {x : α} (hi : l[i]? = some x) : ∃ b o c, v = .slice (some ⟨b, o, none⟩) l.length c ∧ l.length ≤ c ∧ b < W.heap.size ∧ ∀ j u, (enc x)[j]? = some u → W.cell? ⟨b, o + i * k + j, none⟩ = some u := by
  obtain ⟨A, c, e, hc, h⟩ := h
  have hl : 0 < l.length := by have := (List.getElem?_eq_some_iff.1 hi).1; omega
  obtain ⟨b, o, rfl, hb, hx⟩ := h hl
  exact ⟨b, o, c, e, hc, hb, fun j u hu => hx i x j u hi hu⟩
theorem flat_at (hk : ∀ x, (enc x).length = k) : ∀ {l : List α} {i : Nat} {x : α} {j : Nat} {u : Value}, l[i]? = some x → (enc x)[j]? = some u → (l.flatMap enc)[i * k + j]? = some u
  | [], i, x, j, u, h, _ => by simp at h
  | a :: l, 0, x, j, u, h, hu => by
    simp at h; subst h
    have hj := (List.getElem?_eq_some_iff.1 hu).1
    rw [List.flatMap_cons, Nat.zero_mul, Nat.zero_add, List.getElem?_append_left hj]; exact hu
  | a :: l, i + 1, x, j, u, h, hu => by
    simp at h
    have e : (i + 1) * k + j = (enc a).length + (i * k + j) := by rw [hk, Nat.succ_mul]; omega
    rw [List.flatMap_cons, e, List.getElem?_append_right (by omega), Nat.add_sub_cancel_left]
    exact flat_at hk h hu
theorem flat_len (hk : ∀ x, (enc x).length = k) : ∀ l : List α, (l.flatMap enc).length = l.length * k
  | [] => by simp
  | a :: l => by rw [List.flatMap_cons, List.length_append, flat_len hk l, hk, List.length_cons, Nat.succ_mul]; omega
theorem Row.of_own {base : Nat} {e : TypeId} {n : Nat} (hk : ∀ x, (enc x).length = k) (h : W.ownsRow base e k v n (l.flatMap enc)) (hn : n = l.length) : Row enc k W v l := by
  subst hn
  rcases h.2 with ⟨rfl, h0⟩ | ⟨g, cap, cur, rfl, hc⟩
  · have hl : l.length = 0 := by have := h0; omega
    exact ⟨none, 0, by rw [hl], by omega, fun h => by omega⟩
  · refine ⟨_, cap, rfl, ?_, fun hl => ⟨g, 0, rfl, ?_, ?_⟩⟩
    · obtain ⟨_, _, h3, _⟩ := hc; omega
    · exact (h.lt g rfl).2
    · intro i x j u hi hu
      have := h.cells (g := g) rfl (i * k + j) u (flat_at hk hi hu)
      have e : (⟨g, 0, none⟩ : Addr).add (i * k + j) = ⟨g, 0 + i * k + j, none⟩ := by
        unfold Addr.add
        split
        · rename_i h0; rw [Nat.zero_add, h0]
        · simp
      rw [e] at this
      exact this
end
theorem blk_set {w : World} {b : Nat} {cs : Array Value} {T : TypeId} (h : w.heap[b]? = some (.cells cs T (0, 0))) (j : Nat) (u : Value) : (w.setCell ⟨b, j, none⟩ u).heap[b]? = some (.cells (cs.setIfInBounds j u) T (0, 0)) := by
  simp [World.setCell, Array.getElem?_modify, h]
theorem grown_set (w : World) (p : Addr) (u : Value) : w.grownBy (w.setCell p u) (some p.block) :=
  ⟨rfl, rfl, rfl, by simp [World.setCell], fun k _ hne => Below.heap_setCell w p u k (fun e => hne (by rw [e]))⟩
theorem own_set {w : World} {base : Nat} {e : TypeId} {size n : Nat} {v : Value} {xs : List Value} (h : w.ownsRow base e size v n xs) {p : Addr} (hp : p.block < base) (u : Value) : (w.setCell p u).ownsRow base e size v n xs :=
  h.kept (grown_set w p u) (by
    by_cases hv : v.ownBlock = some p.block
    · have := (h.lt _ hv).1; omega
    · exact .inr hv)
theorem own_below {w w' : World} {base : Nat} {e : TypeId} {size n : Nat} {v : Value} {xs : List Value} (h : w.ownsRow base e size v n xs) (hb : Below w.heap.size w w') : w'.ownsRow base e size v n xs :=
  h.kept (row := none) ⟨hb.os, hb.tape, hb.output, hb.size, fun k hk _ => hb.block k hk⟩ (by cases hv : v.ownBlock <;> simp)
theorem own_form {w : World} {base : Nat} {e : TypeId} {size : Nat} {v : Value} {n : Nat} {xs : List Value} (h : w.ownsRow base e size v n xs) (hn : 0 < n) :
    ∃ g cap, v = .slice (some ⟨g, 0, none⟩) n cap ∧ base ≤ g ∧ g < w.heap.size ∧ n ≤ cap := by
  rcases h.2 with ⟨_, h0⟩ | ⟨g, cap, cur, hv, hb, hg, hc, _⟩
  · omega
  · exact ⟨g, cap, hv, hb, blk_lt hg, hc⟩
theorem own_empty (w : World) (base : Nat) (e : TypeId) (size : Nat) (h : base ≤ w.heap.size) : (w.alloc (.cells #[] e)).ownsRow base e size (.slice (some ⟨w.heap.size, 0, none⟩) 0 0) 0 [] :=
  ⟨by simp, .inr ⟨w.heap.size, 0, #[], rfl, h, heap_alloc_new _ _, Nat.le_refl _, by unfold maxLen; omega, by simp, by simp⟩⟩
theorem flat_set {α : Type} {enc : α → List Value} {k : Nat} (hk : ∀ x, (enc x).length = k) : ∀ {l : List α} {i : Nat} {x x' : α} {j : Nat} {u : Value}, l[i]? = some x → j < k → enc x' = (enc x).set j u → (l.flatMap enc).set (i * k + j) u = (l.set i x').flatMap enc
  | [], i, x, x', j, u, h, _, _ => by simp at h
  | a :: l, 0, x, x', j, u, h, hj, he => by
    simp at h; subst h
    rw [List.flatMap_cons, Nat.zero_mul, Nat.zero_add, List.set_append_left _ _ (by rw [hk]; exact hj), List.set_cons_zero, List.flatMap_cons, he]
  | a :: l, i + 1, x, x', j, u, h, hj, he => by
    simp at h
    rw [List.flatMap_cons, List.set_append_right _ _ (by rw [hk, Nat.succ_mul]; omega), List.set_cons_succ, List.flatMap_cons, hk, show (i + 1) * k + j - k = i * k + j by rw [Nat.succ_mul]; omega, flat_set hk h hj he]
theorem own_slice {w : World} {base : Nat} {e : TypeId} {size : Nat} {v : Value} {n : Nat} {xs : List Value} (h : w.ownsRow base e size v n xs) : ∃ A c, v = .slice A n c := by
  rcases h.2 with ⟨rfl, rfl⟩ | ⟨g, cap, cur, hv, _⟩
  · exact ⟨none, 0, rfl⟩
  · exact ⟨_, cap, hv⟩
theorem own_base {w : World} {base base' : Nat} {e : TypeId} {size : Nat} {v : Value} {n : Nat} {xs : List Value} (h : w.ownsRow base e size v n xs) (hb : base' ≤ base) : w.ownsRow base' e size v n xs := by
  refine ⟨h.1, ?_⟩
  rcases h.2 with h1 | ⟨g, cap, cur, hv, h2, h3⟩
  · exact .inl h1
  · exact .inr ⟨g, cap, cur, hv, Nat.le_trans hb h2, h3⟩
theorem bUndrew {W w : World} (h : Below W.drew.heap.size W.drew w) : Below W.heap.size W w := ⟨h.os, h.tape, h.output, h.size, h.block⟩
theorem heap_at (W : World) (o : Obj) (g : Nat) (h : W.heap.size = g) : (W.alloc o).heap[g]? = some o := by subst h; exact heap_alloc_new _ _
theorem flat_inv {α : Type} {enc : α → List Value} {k : Nat} (hk : ∀ x, (enc x).length = k) : ∀ {l : List α} {j : Nat} {u : Value}, (l.flatMap enc)[j]? = some u → ∃ i x j', l[i]? = some x ∧ (enc x)[j']? = some u ∧ j = i * k + j'
  | [], j, u, h => by simp at h
  | a :: l, j, u, h => by
    rw [List.flatMap_cons] at h
    by_cases hj : j < (enc a).length
    · rw [List.getElem?_append_left hj] at h
      exact ⟨0, a, j, rfl, h, by omega⟩
    · rw [List.getElem?_append_right (by omega)] at h
      obtain ⟨i, x, j', h1, h2, h3⟩ := flat_inv hk h
      exact ⟨i + 1, x, j', by simpa using h1, h2, by rw [hk] at h3 hj; rw [Nat.succ_mul]; omega⟩
end Go.Proofs.Ytenpgkkefielfaa
