/-
  Layer 18: what the reference's 'behind' makes: words and their keeping.
-/
import Derived.Test.YtenpgkkefielfaaAlignW17
set_option linter.unusedVariables false
set_option linter.unusedSimpArgs false
namespace Go.Proofs.Ytenpgkkefielfaa
open Go.RowKit

theorem get_bangB {α : Type} [Inhabited α] {l : List α} {k : Nat} {x : α} (h : l[k]? = some x) : l[k]! = x := by rw [List.getElem!_eq_getElem?_getD, h, Option.getD_some]
/-- The k first bools, one of them true. -/
def beG (a : Aln) (N k : Nat) : List Bool := (a.got.set N true).take k
/-- What is held at j. -/
def beL (a : Aln) (N : Nat) (it : It) (j : Nat) : List It := if j = N ∧ a.got[N]! = true then a.held[j]!.l ++ [it] else a.held[j]!.l
/-- The number, k of the inputs being done. -/
def beN (a : Aln) (N : Nat) (it : It) (k : Nat) : Int := if N < k ∧ a.got[N]! = false then it.n else a.n
structure BeAt (w0 W : World) (bA bI : Array Value) (nv : Int) (u1 : Value) (gs : List Bool) (u2 : Value) (hs : List Hl) : Prop where
  a0 : W.heap[w0.heap.size]? = some (.cells bA 26 (0, 0))
  i0 : W.heap[w0.heap.size + 1]? = some (.cells bI 43 (0, 0))
  z0 : W.heap[w0.heap.size + 2]? = some (.cells #[.int .i64 0, .slice none 0 0, .slice none 0 0] 26 (0, 0))
  o0 : W.heap[w0.heap.size + 3]? = some (.cells #[.int .i64 nv, u1, u2] 26 (0, 0))
  g : W.ownsRow (w0.heap.size + 4) 4 1 u1 gs.length (gs.flatMap bCs)
  h : W.ownsRow (w0.heap.size + 4) 32 1 u2 hs.length (hs.flatMap Hl.cs)
  hx : ∀ x ∈ hs, W.ownsRow (w0.heap.size + 4) 43 11 x.row x.l.length (x.l.flatMap It.cs)
  bel : Below w0.heap.size w0 W
section
variable {w0 W W' : World} {bA bI : Array Value} {nv : Int} {u1 u2 : Value} {gs : List Bool} {hs : List Hl}
theorem BeAt.below (h : BeAt w0 W bA bI nv u1 gs u2 hs) (hb : Below W.heap.size W W') : BeAt w0 W' bA bI nv u1 gs u2 hs :=
  ⟨heap_below h.a0 hb, heap_below h.i0 hb, heap_below h.z0 hb, heap_below h.o0 hb, own_below h.g hb, own_below h.h hb, fun x hx => own_below (h.hx x hx) hb, bThen h.bel hb⟩
/-- The number is stored. -/
theorem BeAt.setN (h : BeAt w0 W bA bI nv u1 gs u2 hs) (n : Int) : BeAt w0 (W.setCell ⟨w0.heap.size + 3, 0, none⟩ (.int .i64 n)) bA bI n u1 gs u2 hs :=
  ⟨(Below.heap_setCell _ _ _ _ (by simp)).trans h.a0, (Below.heap_setCell _ _ _ _ (by simp)).trans h.i0, (Below.heap_setCell _ _ _ _ (by simp)).trans h.z0, by simpa using blk_set h.o0 0 (.int .i64 n), own_set h.g (Nat.lt_succ_self _) _, own_set h.h (Nat.lt_succ_self _) _, fun x hx => own_set (h.hx x hx) (Nat.lt_succ_self _) _, h.bel.setCell (Nat.le_add_right _ _) _⟩
/-- A bool more, and its row is stored. -/
theorem BeAt.push1 (h : BeAt w0 W bA bI nv u1 gs u2 hs) {v : Value} {b : Bool} (ho : W'.ownsRow (w0.heap.size + 4) 4 1 v (gs.length + 1) (gs.flatMap bCs ++ [.bool b])) (hb : Below (w0.heap.size + 4) W W') (hk : ∀ k, k < W.heap.size → u1.ownBlock ≠ some k → W'.heap[k]? = W.heap[k]?) :
    BeAt w0 (W'.setCell ⟨w0.heap.size + 3, 1, none⟩ v) bA bI nv v (gs ++ [b]) u2 hs := by
  have hlow : ∀ k, k < w0.heap.size + 4 → W'.heap[k]? = W.heap[k]? := fun k hlt => hb.block k hlt
  have hO : ∀ {e : TypeId} {s n : Nat} {x : Value} {xs : List Value}, e ≠ 4 → W.ownsRow (w0.heap.size + 4) e s x n xs → W'.ownsRow (w0.heap.size + 4) e s x n xs := by
    intro e s n x xs he hx
    exact own_keep hx (fun j hj => hk j (hx.lt j hj).2 (fun e' => by rcases own_ne h.g hx (fun e2 => he e2.symm) with h | h; (rw [h] at e'; cases e'); exact h (e'.trans hj.symm)))
  refine ⟨(Below.heap_setCell _ _ _ _ (by simp)).trans ((hlow _ (by omega)).trans h.a0), (Below.heap_setCell _ _ _ _ (by simp)).trans ((hlow _ (by omega)).trans h.i0), (Below.heap_setCell _ _ _ _ (by simp)).trans ((hlow _ (by omega)).trans h.z0), ?_, ?_, own_set (hO (by decide) h.h) (Nat.lt_succ_self _) _, fun x hx => own_set (hO (by decide) (h.hx x hx)) (Nat.lt_succ_self _) _, (h.bel.trans (hb.mono (Nat.le_add_right _ _))).setCell (Nat.le_add_right _ _) _⟩
  · simpa using blk_set ((hlow _ (by omega)).trans h.o0) 1 v
  · rw [List.length_append, List.flatMap_append]
    exact own_set (by simpa [bCs] using ho) (Nat.lt_succ_self _) _
theorem BeAt.push1k (h : BeAt w0 W bA bI nv u1 gs u2 hs) {v : Value} (hb : Below (w0.heap.size + 4) W W') (hk : ∀ k, k < W.heap.size → u1.ownBlock ≠ some k → W'.heap[k]? = W.heap[k]?) {n : Nat} {x : Value} {xs : List Value} (hx : W.ownsRow (w0.heap.size + 4) 43 11 x n xs) :
    (W'.setCell ⟨w0.heap.size + 3, 1, none⟩ v).ownsRow (w0.heap.size + 4) 43 11 x n xs :=
  own_set (own_keep hx (fun j hj => hk j (hx.lt j hj).2 (fun e' => by rcases own_ne h.g hx (by decide) with h | h; (rw [h] at e'; cases e'); exact h (e'.trans hj.symm)))) (Nat.lt_succ_self _) _
/-- A row of items more, and the row of rows is stored. -/
theorem BeAt.push2 (h : BeAt w0 W bA bI nv u1 gs u2 hs) {v : Value} {y : Hl} (hy : W.ownsRow (w0.heap.size + 4) 43 11 y.row y.l.length (y.l.flatMap It.cs)) (ho : W'.ownsRow (w0.heap.size + 4) 32 1 v (hs.length + 1) (hs.flatMap Hl.cs ++ [y.row])) (hb : Below (w0.heap.size + 4) W W') (hk : ∀ k, k < W.heap.size → u2.ownBlock ≠ some k → W'.heap[k]? = W.heap[k]?) :
    BeAt w0 (W'.setCell ⟨w0.heap.size + 3, 2, none⟩ v) bA bI nv u1 gs v (hs ++ [y]) := by
  have hlow : ∀ k, k < w0.heap.size + 4 → W'.heap[k]? = W.heap[k]? := fun k hlt => hb.block k hlt
  have hO : ∀ {e : TypeId} {s n : Nat} {x : Value} {xs : List Value}, e ≠ 32 → W.ownsRow (w0.heap.size + 4) e s x n xs → W'.ownsRow (w0.heap.size + 4) e s x n xs := by
    intro e s n x xs he hx
    exact own_keep hx (fun j hj => hk j (hx.lt j hj).2 (fun e' => by rcases own_ne h.h hx (fun e2 => he e2.symm) with h | h; (rw [h] at e'; cases e'); exact h (e'.trans hj.symm)))
  refine ⟨(Below.heap_setCell _ _ _ _ (by simp)).trans ((hlow _ (by omega)).trans h.a0), (Below.heap_setCell _ _ _ _ (by simp)).trans ((hlow _ (by omega)).trans h.i0), (Below.heap_setCell _ _ _ _ (by simp)).trans ((hlow _ (by omega)).trans h.z0), ?_, own_set (hO (by decide) h.g) (Nat.lt_succ_self _) _, ?_, ?_, (h.bel.trans (hb.mono (Nat.le_add_right _ _))).setCell (Nat.le_add_right _ _) _⟩
  · simpa using blk_set ((hlow _ (by omega)).trans h.o0) 2 v
  · rw [List.length_append, List.flatMap_append]
    exact own_set (by simpa [Hl.cs] using ho) (Nat.lt_succ_self _) _
  · intro x hx
    rcases List.mem_append.1 hx with hx | hx
    · exact own_set (hO (by decide) (h.hx x hx)) (Nat.lt_succ_self _) _
    · rw [List.mem_singleton] at hx
      subst hx
      exact own_set (hO (by decide) hy) (Nat.lt_succ_self _) _
end
theorem beG_succ (a : Aln) (N k : Nat) {x : Bool} (hx : (a.got.set N true)[k]? = some x) : beG a N (k + 1) = beG a N k ++ [x] := by
  unfold beG
  rw [List.take_add_one, hx]
  rfl
/-- The k first rows are what they ought to be. -/
def HsOk (a : Aln) (N : Nat) (it : It) (k : Nat) (hs : List Hl) : Prop := hs.length = k ∧ ∀ j x, hs[j]? = some x → x.l = beL a N it j
theorem HsOk.push {a : Aln} {N : Nat} {it : It} {k : Nat} {hs : List Hl} (h : HsOk a N it k hs) (y : Hl) (hy : y.l = beL a N it k) : HsOk a N it (k + 1) (hs ++ [y]) := by
  obtain ⟨h1, h2⟩ := h
  refine ⟨by simp [h1], fun j x hj => ?_⟩
  by_cases hjk : j < hs.length
  · rw [List.getElem?_append_left hjk] at hj
    exact h2 j x hj
  · rw [List.getElem?_append_right (by omega)] at hj
    have : j - hs.length = 0 := by
      by_cases h0 : j - hs.length = 0
      · exact h0
      · rw [List.getElem?_eq_none (by simp; omega)] at hj; cases hj
    rw [this] at hj
    simp at hj
    subst hj
    rw [hy, show j = k by omega]
/-- The aligner behind. -/
def beA (a : Aln) (N : Nat) (it : It) : Aln :=
  if a.got[N]! = true then { a with held := a.held.set N ⟨.slice none 0 0, a.held[N]!.l ++ [it]⟩ } else ⟨it.n, a.got.set N true, a.held⟩
theorem be_like {a : Aln} {N : Nat} {it : It} {hs : List Hl} (h : HsOk a N it a.held.length hs) (hN : N < a.got.length) (hl : a.held.length = a.got.length) :
    likeA (beA a N it) ⟨beN a N it a.held.length, beG a N a.got.length, hs⟩ := by
  obtain ⟨h1, h2⟩ := h
  unfold beA
  have hgN : a.got[N]? = some a.got[N]! := by rw [List.getElem!_eq_getElem?_getD, List.getElem?_eq_getElem hN]; rfl
  have hG : beG a N a.got.length = a.got.set N true := by
    unfold beG
    exact List.take_of_length_le (by simp)
  cases hg : a.got[N]! with
  | true =>
    rw [if_pos rfl]
    refine ⟨?_, ?_, by simp [h1], fun k x y hx hy => ?_⟩
    · show beN a N it a.held.length = a.n
      unfold beN
      rw [if_neg (by rw [hg]; simp)]
    · show beG a N a.got.length = a.got
      rw [hG]
      rw [hg] at hgN
      refine List.ext_getElem? fun j => ?_
      rw [List.getElem?_set]
      by_cases hj : N = j
      · subst hj; rw [if_pos rfl, if_pos hN, hgN]
      · rw [if_neg hj]
    · simp only at hx hy
      rw [h2 k y hy]
      unfold beL
      by_cases hk : k = N
      · subst hk
        rw [if_pos ⟨rfl, hg⟩]
        rw [List.getElem?_set_self (by omega)] at hx
        injection hx with hx
        rw [← hx]
      · rw [if_neg (fun e => hk e.1)]
        rw [List.getElem?_set_ne (fun e => hk e.symm)] at hx
        rw [List.getElem!_eq_getElem?_getD, hx]
        rfl
  | false =>
    rw [if_neg (by simp)]
    refine ⟨?_, hG, by simp [h1], fun k x y hx hy => ?_⟩
    · show beN a N it a.held.length = it.n
      unfold beN
      rw [if_pos ⟨by omega, hg⟩]
    · simp only at hx hy
      rw [h2 k y hy]
      unfold beL
      rw [if_neg (by rw [hg]; simp), List.getElem!_eq_getElem?_getD, hx]
      rfl
theorem beL_wf {W : World} {v : Value} {a : Aln} (h : AlAt W v a) (N : Nat) {it : It} (hi : it.Wf) (j : Nat) : ∀ x ∈ beL a N it j, x.Wf := by
  intro x hx
  have hold : ∀ y ∈ a.held[j]!.l, y.Wf := by
    intro y hy
    rcases Nat.lt_or_ge j a.held.length with hj | hj
    · have hx := List.getElem?_eq_getElem hj
      rw [List.getElem!_eq_getElem?_getD, hx] at hy
      exact (held_of h hx).2.1 y hy
    · rw [List.getElem!_eq_getElem?_getD, List.getElem?_eq_none hj] at hy
      cases hy
  unfold beL at hx
  split at hx
  · rcases List.mem_append.1 hx with h | h
    · exact hold x h
    · rw [List.mem_singleton] at h; subst h; exact hi
  · exact hold x hx
theorem beL_le {a : Aln} (h : ∀ (k : Nat) (x : Hl), a.held[k]? = some x → x.l.length ≤ 16) (N : Nat) (it : It) (j : Nat) : (beL a N it j).length ≤ 17 := by
  have hold : a.held[j]!.l.length ≤ 16 := by
    rcases Nat.lt_or_ge j a.held.length with hj | hj
    · have hx := List.getElem?_eq_getElem hj
      rw [List.getElem!_eq_getElem?_getD, hx]
      exact h j _ hx
    · rw [List.getElem!_eq_getElem?_getD, List.getElem?_eq_none hj]
      exact Nat.zero_le _
  unfold beL
  split
  · rw [List.length_append, List.length_singleton]; omega
  · omega
theorem beN_succ (a : Aln) (N : Nat) (it : It) (k : Nat) (h : k ≠ N ∨ a.got[N]! = true) : beN a N it (k + 1) = beN a N it k := by
  unfold beN
  rcases h with h | h
  · by_cases h1 : N < k
    · by_cases h2 : a.got[N]! = false
      · rw [if_pos ⟨by omega, h2⟩, if_pos ⟨h1, h2⟩]
      · rw [if_neg (fun e => h2 e.2), if_neg (fun e => h2 e.2)]
    · rw [if_neg (fun e => h1 (by omega)), if_neg (fun e => h1 e.1)]
  · rw [if_neg (fun e => by rw [h] at e; cases e.2), if_neg (fun e => by rw [h] at e; cases e.2)]
theorem beN_at (a : Aln) (N : Nat) (it : It) (h : a.got[N]! = false) : beN a N it (N + 1) = it.n := by
  unfold beN
  rw [if_pos ⟨by omega, h⟩]
theorem beG_len (a : Aln) (N k : Nat) (h : k ≤ a.got.length) : (beG a N k).length = k := by
  unfold beG
  rw [List.length_take, List.length_set]
  omega
theorem beN_wf {a : Aln} {it : It} (ha : wfL a.n) (hi : wfL it.n) (N k : Nat) : wfL (beN a N it k) := by
  unfold beN
  split
  · exact hi
  · exact ha
end Go.Proofs.Ytenpgkkefielfaa
