/-
  WALKS: item.Right.
-/
import Derived.Test.YtenpgkkefielfaaItemW3
namespace Go.Proofs.Ytenpgkkefielfaa
open Go.RowKit

theorem bcellI {W w1 : World} (hb : Below W.heap.size W w1) : (∀ b o, b < W.heap.size → w1.cell? ⟨b, o, none⟩ = W.cell? ⟨b, o, none⟩) ∧ (∀ b o, b < W.heap.size → w1.frozen? ⟨b, o, none⟩ = W.frozen? ⟨b, o, none⟩) :=
  ⟨fun b o h => hb.cell (p := ⟨b, o, none⟩) h, fun b o h => hb.frozen (p := ⟨b, o, none⟩) h⟩
theorem new_cellI (W : World) (cs : Array Value) (T : TypeId) (f : Nat × Nat) (j : Nat) : (W.alloc (.cells cs T f)).cell? ⟨W.heap.size, j, none⟩ = cs[j]? := by
  have h : (W.alloc (.cells cs T f)).heap[W.heap.size]? = some (.cells cs T f) := heap_alloc_new _ _
  exact Lib.cell_of_heap h j
theorem bare_any (i : It) (w : World) : Calls Try.prog 63 #[itV i] w fun e w' => e = .returned (.tuple #[itV (bareI i), .bool (bareB i)]) ∧ Below w.heap.size w w' := by
  obtain ⟨kind, ek, ea, ev, ma, n, lo, hi, rk, rn, rv⟩ := i
  by_cases h1 : kind = 1
  · have h := bare1 kind ek ea ev ma n lo hi rk rn rv w _ h1 rfl
    subst h1; exact h
  by_cases h2 : kind = 2
  · have h := bare2 kind ek ea ev ma n lo hi rk rn rv w _ h2 rfl
    subst h2; exact h
  by_cases h3 : kind = 3
  · have h := bare3 kind ek ea ev ma n lo hi rk rn rv w _ h3 rfl
    subst h3; exact h
  by_cases h4 : kind = 4
  · have h := bare4 kind ek ea ev ma n lo hi rk rn rv w _ h4 rfl
    subst h4; exact h
  by_cases h5 : kind = 5
  · have h := bare5 kind ek ea ev ma n lo hi rk rn rv w _ h5 rfl
    subst h5; exact h
  have h := bare6 kind ek ea ev ma n lo hi rk rn rv w _ (by omega) rfl
  unfold bareI bareB
  simp only [if_neg h1, if_neg h2, if_neg h3, if_neg h4, if_neg h5]
  exact h
theorem hbel2 {w w2 : World} {o : Obj} (h : Below (w.alloc o).heap.size (w.alloc o) w2) (o2 : Obj) (_ : Unit) : Below w.heap.size w (w2.alloc o2) :=
  bel_alloc ((bel_alloc (Below.refl _ _) o).trans (h.mono (bel_alloc (Below.refl _ _) o).size)) o2
set_option maxHeartbeats 1000000 in
set_option maxRecDepth 100000 in
theorem right_any (i : It) (w : World) (b : Bool) (hb : rightI i = b) : Calls Try.prog 45 #[itV i] w fun e w' => e = .returned (.bool b) ∧ Below w.heap.size w w' := by
  unfold rightI at hb
  have hB := fun W => bare_any i W
  obtain ⟨q, hq⟩ : ∃ q, bareB i = q := ⟨_, rfl⟩
  obtain ⟨j, hj⟩ : ∃ j, bareI i = j := ⟨_, rfl⟩
  rw [hq, hj] at hb hB
  have hE := fun W => eq57 W j i
  obtain ⟨S, hS⟩ : ∃ S, sameI j i = S := ⟨_, rfl⟩
  rw [hS] at hb hE
  clear hS hq hj
  obtain ⟨kind, ek, ea, ev, ma, n, lo, hi, rk, rn, rv⟩ := i
  obtain ⟨kind', ek', ea', ev', ma', n', lo', hi', rk', rn', rv'⟩ := j
  unfold itV at hB hE ⊢
  simp only at hB hE ⊢
  have HB := Lib.hid hB
  clear hB
  go_enter Try.func45, Try.ntmps45
  go_wp2_with fail
  refine (HB.out _).mono ?_
  rintro e w2 ⟨rfl, hb2⟩
  obtain ⟨hbc, hbf⟩ := bcellI hb2
  have hsz : w.heap.size < w2.heap.size := by have := hb2.size; simp at this; omega
  have hc := fun o => (hbc w.heap.size o (by simp)).trans (new_cellI w _ 43 _ o)
  have c0 := hc 0
  have c1 := hc 1
  have c2 := hc 2
  have c3 := hc 3
  have c4 := hc 4
  have c5 := hc 5
  have c6 := hc 6
  have c7 := hc 7
  have c8 := hc 8
  have c9 := hc 9
  have c10 := hc 10
  clear hbc hbf hc
  simp at c0 c1 c2 c3 c4 c5 c6 c7 c8 c9 c10
  cases q with
  | false =>
    rw [Bool.false_and] at hb
    subst hb
    go_wp2_with fail
    go_ret
    exact ⟨rfl, hbel2 hb2 _ ()⟩
  | true =>
    rw [Bool.true_and] at hb
    subst hb
    go_wp2_with fail
    go_ret
    exact ⟨rfl, hbel2 hb2 _ ()⟩
end Go.Proofs.Ytenpgkkefielfaa
