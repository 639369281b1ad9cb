/-
  WORDS of the law AlignCuts: what the closure finds in memory, and what it leaves as it was.
-/
import Derived.Test.YtenpgkkefielfaaCutP3
import Derived.Test.YtenpgkkefielfaaCutA
set_option linter.unusedVariables false
set_option linter.unusedSimpArgs false
namespace Go.Proofs.Ytenpgkkefielfaa
open Go.RowKit

theorem Row.keepIn {α : Type} {enc : α → List Value} {k : Nat} {W W' : World} {v : Value} {l : List α} (h : Row enc k W v l) (hk : ∀ b, v.ownBlock = some b → 0 < l.length → W'.heap[b]? = W.heap[b]?) (hs : W.heap.size ≤ W'.heap.size) : Row enc k W' v l := by
  obtain ⟨A, c, rfl, hc, h⟩ := h
  refine ⟨A, c, rfl, hc, fun hl => ?_⟩
  obtain ⟨b, o, rfl, hb, hx⟩ := h hl
  exact ⟨b, o, rfl, by omega, fun i x j u h1 h2 => (World.cell?_of_block (hk b rfl hl)).trans (hx i x j u h1 h2)⟩
theorem Row.blk_lt {α : Type} {enc : α → List Value} {k : Nat} {W : World} {v : Value} {l : List α} (h : Row enc k W v l) (hl : 0 < l.length) {b : Nat} (hb : v.ownBlock = some b) : b < W.heap.size := by
  obtain ⟨A, c, rfl, hc, h⟩ := h
  obtain ⟨b', o, rfl, hb', -⟩ := h hl
  have hb : b' = b := Option.some.inj hb
  omega
/-- The blocks that an aligner is read from. -/
def AlBlk (va : Value) (a : Aln) (k : Nat) : Prop := (∃ x y z, va = .agg #[x, y, z] ∧ (y.ownBlock = some k ∧ 0 < a.got.length ∨ z.ownBlock = some k ∧ 0 < a.held.length)) ∨ ∃ h ∈ a.held, h.row.ownBlock = some k ∧ 0 < h.l.length
theorem AlAt.keepIn {W W' : World} {va : Value} {a : Aln} (h : AlAt W va a) (hk : ∀ b, AlBlk va a b → W'.heap[b]? = W.heap[b]?) (hs : W.heap.size ≤ W'.heap.size) : AlAt W' va a := by
  obtain ⟨vg, vh, rfl, h1, ⟨h2, h2'⟩, h3, h4, h5⟩ := h
  exact ⟨vg, vh, rfl, h1, ⟨h2.keepIn (fun b hb hl => hk b (.inl ⟨_, _, _, rfl, .inl ⟨hb, hl⟩⟩)) hs, h2'⟩, h3.keepIn (fun b hb hl => hk b (.inl ⟨_, _, _, rfl, .inr ⟨hb, hl⟩⟩)) hs, fun x hx => ⟨(h4 x hx).1.keepIn (fun b hb hl => hk b (.inr ⟨x, hx, hb, hl⟩)) hs, (h4 x hx).2⟩, h5⟩
theorem AlAt.blk_lt {W : World} {va : Value} {a : Aln} (h : AlAt W va a) {k : Nat} (hk : AlBlk va a k) : k < W.heap.size := by
  obtain ⟨vg, vh, rfl, h1, ⟨h2, h2'⟩, h3, h4, h5⟩ := h
  rcases hk with ⟨x, y, z, e, hk⟩ | ⟨x, hx, hb, hl⟩
  · injection e with e
    injection e with e
    simp at e
    obtain ⟨-, rfl, rfl⟩ := e
    rcases hk with ⟨hb, hl⟩ | ⟨hb, hl⟩
    · exact h2.blk_lt hl hb
    · exact h3.blk_lt hl hb
  · exact (h4 x hx).1.blk_lt hl hb
/-- What stays as it is all through the law's walk: where things lie, the rows and their barriers. -/
structure CFix where
  bA : Nat
  bOK : Nat
  bP : Nat
  bC : Nat
  bW : Nat
  bF : Nat
  gP : Nat
  gR : Nat
  cP : Nat
  bs : Nat
  n : Nat
  B : Nat
  vW : Value
  vF : Value
  R : Nat → List It
  E : Nat → Nat → Nat
/-- A block that is never written. -/
def CFix.Still (F : CFix) (k : Nat) : Prop := k < F.bs ∧ k ≠ F.bA ∧ k ≠ F.bC ∧ k ≠ F.gP ∧ k ≠ F.gR
structure CFix.Ok (F : CFix) : Prop where
  ok : F.Still F.bOK
  p : F.Still F.bP
  w : F.Still F.bW
  f : F.Still F.bF
  a : F.bA < F.bs ∧ F.bA ≠ F.bC ∧ F.bA ≠ F.gP ∧ F.bA ≠ F.gR
  c : F.bC < F.bs ∧ F.bC ≠ F.gP ∧ F.bC ≠ F.gR
  g : F.gP < F.bs ∧ F.gP ≠ F.gR
  gr : F.gR < F.bs
/-- The rows that each segment must come to. -/
def WantAt (F : CFix) (W : World) : Prop :=
  ∃ bw ow cw, F.vW = .slice (some ⟨bw, ow, none⟩) F.n cw ∧ F.Still bw ∧ ∀ i, i < F.n → ∃ bi ci, W.cell? ⟨bw, ow + i, none⟩ = some (.slice (some ⟨bi, 0, none⟩) (F.B + 1) ci) ∧ F.Still bi ∧
    ∀ d, d ≤ F.B → ∃ v, W.cell? ⟨bi, d, none⟩ = some v ∧ RowI W v (((F.R i).take (F.E i d)).drop (sgo (F.E i) d)) ∧ ∀ k, v.ownBlock = some k → 0 < (((F.R i).take (F.E i d)).drop (sgo (F.E i) d)).length → F.Still k
theorem WantAt.keep {F : CFix} {W W' : World} (h : WantAt F W) (hk : ∀ k, F.Still k → W'.heap[k]? = W.heap[k]?) (hs : W.heap.size ≤ W'.heap.size) : WantAt F W' := by
  obtain ⟨bw, ow, cw, e, hw, h⟩ := h
  refine ⟨bw, ow, cw, e, hw, fun i hi => ?_⟩
  obtain ⟨bi, ci, h1, h2, h3⟩ := h i hi
  refine ⟨bi, ci, (World.cell?_of_block (hk bw hw)).trans h1, h2, fun d hd => ?_⟩
  obtain ⟨v, h4, h5, h6⟩ := h3 d hd
  exact ⟨v, (World.cell?_of_block (hk bi h2)).trans h4, ⟨h5.1.keepIn (fun b hb hl => hk b (h6 b hb hl)) hs, h5.2⟩, h6⟩
structure CMem (F : CFix) (W : World) (c : Nat) (va : Value) (a : Aln) (hs : List Hl) : Prop where
  size : F.bs ≤ W.heap.size
  A : ∃ x0 x1 x2, va = .agg #[x0, x1, x2] ∧ W.heap[F.bA]? = some (.cells #[x0, x1, x2] 26 (0, 0))
  OK : W.heap[F.bOK]? = some (.cells #[.bool true] 4 (0, 0))
  P : W.heap[F.bP]? = some (.cells #[.slice (some ⟨F.gP, 0, none⟩) F.n F.cP] 22 (0, 0))
  C : W.heap[F.bC]? = some (.cells #[.int .i64 c] 3 (0, 0))
  Wn : W.heap[F.bW]? = some (.cells #[F.vW] 31 (0, 0))
  Fn : W.heap[F.bF]? = some (.cells #[F.vF] 35 (0, 0))
  own : W.ownsRow 0 32 1 (.slice (some ⟨F.gP, 0, none⟩) F.n F.cP) F.n (hs.flatMap Hl.cs)
  len : hs.length = F.n
  rows : ∀ h ∈ hs, W.ownsRow F.bs 43 11 h.row h.l.length (h.l.flatMap It.cs)
  dis : ∀ (i j : Nat) (x y : Hl), i ≠ j → hs[i]? = some x → hs[j]? = some y → x.row.ownBlock = none ∨ x.row.ownBlock ≠ y.row.ownBlock
  al : AlAt W va a
  off : ∀ k, AlBlk va a k → k ≠ F.bA ∧ k ≠ F.bC ∧ k ≠ F.gP ∧ k ≠ F.gR ∧ ∀ h ∈ hs, h.row.ownBlock ≠ some k
  want : WantAt F W
/-- What is left as it was: all but two boxes and the rows that grow. -/
structure Kept (F : CFix) (W : World) (hs : List Hl) (W' : World) (hs' : List Hl) : Prop where
  io : W'.os = W.os ∧ W'.tape = W.tape ∧ W'.output = W.output
  size : W.heap.size ≤ W'.heap.size
  blk : ∀ k, k < W.heap.size → k ≠ F.bA → k ≠ F.bC → k ≠ F.gP → (∀ h ∈ hs, h.row.ownBlock ≠ some k) → W'.heap[k]? = W.heap[k]?
  new : ∀ h' ∈ hs', ∀ k, h'.row.ownBlock = some k → (∃ h ∈ hs, h.row.ownBlock = some k) ∨ W.heap.size ≤ k
theorem Kept.trans {F : CFix} {W W1 W2 : World} {hs hs1 hs2 : List Hl} (h1 : Kept F W hs W1 hs1) (h2 : Kept F W1 hs1 W2 hs2) : Kept F W hs W2 hs2 := by
  have q1 := h1.size
  have q2 := h2.size
  refine ⟨⟨h2.io.1.trans h1.io.1, h2.io.2.1.trans h1.io.2.1, h2.io.2.2.trans h1.io.2.2⟩, by omega, fun k hk a b c d => ?_, fun h' hh k hk => ?_⟩
  · refine (h2.blk k (by omega) a b c (fun h hh e => ?_)).trans (h1.blk k hk a b c d)
    rcases h1.new h hh k e with ⟨x, hx, hxk⟩ | h3
    · exact d x hx hxk
    · omega
  · rcases h2.new h' hh k hk with ⟨x, hx, hxk⟩ | h3
    · exact h1.new x hx k hxk
    · exact .inr (by omega)
theorem Kept.below {F : CFix} {W W1 : World} {hs : List Hl} (h : Below W.heap.size W W1) : Kept F W hs W1 hs :=
  ⟨⟨h.os, h.tape, h.output⟩, h.size, fun k hk _ _ _ _ => h.block k hk, fun h' hh k hk => .inl ⟨h', hh, hk⟩⟩
section
variable {F : CFix} {W W' : World} {c : Nat} {va : Value} {a : Aln} {hs : List Hl}
theorem CMem.below (h : CMem F W c va a hs) (hF : F.Ok) (hb : Below W.heap.size W W') : CMem F W' c va a hs := by
  have hz := h.size
  have hs' := hb.size
  have hlt : ∀ k, k < F.bs → W'.heap[k]? = W.heap[k]? := fun k hk => hb.block k (by omega)
  obtain ⟨x0, x1, x2, e, hA⟩ := h.A
  exact ⟨by omega, ⟨x0, x1, x2, e, (hlt _ hF.a.1).trans hA⟩, (hlt _ hF.ok.1).trans h.OK, (hlt _ hF.p.1).trans h.P, (hlt _ hF.c.1).trans h.C, (hlt _ hF.w.1).trans h.Wn, (hlt _ hF.f.1).trans h.Fn,
    own_keep h.own (fun j hj => hb.block j (h.own.lt j hj).2), h.len, fun x hx => own_keep (h.rows x hx) (fun j hj => hb.block j ((h.rows x hx).lt j hj).2), h.dis, h.al.below hb, h.off, h.want.keep (fun k hk => hlt k hk.1) (by omega)⟩
/-- A block of the rows that passed is none of the fixed ones. -/
theorem CMem.row_bs (h : CMem F W c va a hs) {x : Hl} (hx : x ∈ hs) {k : Nat} (hk : x.row.ownBlock = some k) : F.bs ≤ k ∧ k < W.heap.size := (h.rows x hx).lt k hk
theorem CMem.off_new (h : CMem F W c va a hs) (hF : F.Ok) {b : Nat} (hb : AlBlk va a b ∨ W.heap.size ≤ b) : b ≠ F.bA ∧ b ≠ F.bC ∧ b ≠ F.gP ∧ b ≠ F.gR ∧ ∀ h ∈ hs, h.row.ownBlock ≠ some b := by
  rcases hb with hb | hb
  · exact h.off b hb
  · have h1 := h.size
    have h2 := hF.a.1
    have h3 := hF.c.1
    have h4 := hF.g.1
    have h5 := hF.gr
    exact ⟨by omega, by omega, by omega, by omega, fun x hx e => by have := (h.row_bs hx e).2; omega⟩
/-- Another aligner is stored. -/
theorem CMem.setA (h : CMem F W c va a hs) (hF : F.Ok) {y0 y1 y2 : Value} {a' : Aln} (hal : AlAt W (.agg #[y0, y1, y2]) a') (hoff : ∀ k, AlBlk (.agg #[y0, y1, y2]) a' k → k ≠ F.bA ∧ k ≠ F.bC ∧ k ≠ F.gP ∧ k ≠ F.gR ∧ ∀ h ∈ hs, h.row.ownBlock ≠ some k)
    (hk : ∀ k, k ≠ F.bA → W'.heap[k]? = W.heap[k]?) (hs' : W'.heap.size = W.heap.size) (hA : W'.heap[F.bA]? = some (.cells #[y0, y1, y2] 26 (0, 0))) : CMem F W' c (.agg #[y0, y1, y2]) a' hs := by
  have hz := h.size
  refine ⟨by omega, ⟨y0, y1, y2, rfl, hA⟩, (hk _ (fun e => hF.ok.2.1 e)).trans h.OK, (hk _ (fun e => hF.p.2.1 e)).trans h.P, (hk _ (fun e => hF.a.2.1 e.symm)).trans h.C, (hk _ (fun e => hF.w.2.1 e)).trans h.Wn, (hk _ (fun e => hF.f.2.1 e)).trans h.Fn,
    own_keep h.own (fun j hj => hk j (fun e => hF.a.2.2.1 (by have : F.gP = j := Option.some.inj hj; omega))), h.len, fun x hx => own_keep (h.rows x hx) (fun j hj => hk j (fun e => by have := (h.row_bs hx hj).1; have := hF.a.1; omega)), h.dis, hal.keepIn (fun b hb => hk b (hoff b hb).1) (by omega), hoff, h.want.keep (fun k hk2 => hk k hk2.2.1) (by omega)⟩
theorem CMem.setC (h : CMem F W c va a hs) (hF : F.Ok) {c' : Nat} (hk : ∀ k, k ≠ F.bC → W'.heap[k]? = W.heap[k]?) (hs' : W'.heap.size = W.heap.size) (hC : W'.heap[F.bC]? = some (.cells #[.int .i64 c'] 3 (0, 0))) : CMem F W' c' va a hs := by
  have hz := h.size
  obtain ⟨x0, x1, x2, e, hA⟩ := h.A
  refine ⟨by omega, ⟨x0, x1, x2, e, (hk _ hF.a.2.1).trans hA⟩, (hk _ hF.ok.2.2.1).trans h.OK, (hk _ hF.p.2.2.1).trans h.P, hC, (hk _ hF.w.2.2.1).trans h.Wn, (hk _ hF.f.2.2.1).trans h.Fn,
    own_keep h.own (fun j hj => hk j (fun e => hF.c.2.1 (by have : F.gP = j := Option.some.inj hj; omega))), h.len, fun x hx => own_keep (h.rows x hx) (fun j hj => hk j (fun e => by have := (h.row_bs hx hj).1; have := hF.c.1; omega)), h.dis, h.al.keepIn (fun b hb => hk b (h.off b hb).2.1) (by omega), h.off, h.want.keep (fun k hk2 => hk k hk2.2.2.1) (by omega)⟩
/-- A row that has passed is emptied. -/
theorem CMem.setNil (h : CMem F W c va a hs) (hF : F.Ok) {i : Nat} (hi : i < F.n) : CMem F (W.setCell ⟨F.gP, i, none⟩ (.slice none 0 0)) c va a (hs.set i hZ) := by
  have hz := h.size
  have hk : ∀ k, k ≠ F.gP → (W.setCell ⟨F.gP, i, none⟩ (.slice none 0 0)).heap[k]? = W.heap[k]? := fun k hne => Below.heap_setCell W ⟨F.gP, i, none⟩ (.slice none 0 0) k hne
  have hsz : (W.setCell ⟨F.gP, i, none⟩ (.slice none 0 0)).heap.size = W.heap.size := by simp [World.setCell]
  obtain ⟨x0, x1, x2, e, hA⟩ := h.A
  have hmem : ∀ x ∈ hs.set i hZ, x ∈ hs ∨ x = hZ := fun x hx => List.mem_or_eq_of_mem_set hx
  refine ⟨by omega, ⟨x0, x1, x2, e, (hk _ hF.a.2.2.1).trans hA⟩, (hk _ hF.ok.2.2.2.1).trans h.OK, (hk _ hF.p.2.2.2.1).trans h.P, (hk _ hF.c.2.1).trans h.C, (hk _ hF.w.2.2.2.1).trans h.Wn, (hk _ hF.f.2.2.2.1).trans h.Fn,
    own_held h.own (by rw [h.len]; exact hi) hZ, by rw [List.length_set]; exact h.len, fun x hx => ?_, fun p q x y hpq hx hy => ?_, h.al.keepIn (fun b hb => hk b (h.off b hb).2.2.1) (by omega), fun k hk => ?_, h.want.keep (fun k hk2 => hk k hk2.2.2.2.1) (by omega)⟩
  · rcases hmem x hx with hx | rfl
    · exact own_keep (h.rows x hx) (fun j hj => hk j (fun e => by have := (h.row_bs hx hj).1; have := hF.g.1; omega))
    · exact World.ownsRow_nil _ _ _ _
  · by_cases ep : i = p
    · subst ep
      rw [List.getElem?_set_self (by rw [h.len]; exact hi)] at hx
      injection hx with hx
      subst hx
      exact .inl rfl
    · rw [List.getElem?_set_ne ep] at hx
      by_cases eq : i = q
      · subst eq
        rw [List.getElem?_set_self (by rw [h.len]; exact hi)] at hy
        injection hy with hy
        subst hy
        cases hb : x.row.ownBlock with
        | none => exact .inl rfl
        | some k => exact .inr (by simp [hZ, Value.ownBlock])
      · rw [List.getElem?_set_ne eq] at hy
        exact h.dis p q x y hpq hx hy
  · obtain ⟨h1, h2, h3, h4, h5⟩ := h.off k hk
    refine ⟨h1, h2, h3, h4, fun x hx => ?_⟩
    rcases hmem x hx with hx | rfl
    · exact h5 x hx
    · simp [hZ, Value.ownBlock]
/-- One more item has passed. -/
theorem CMem.put (h : CMem F W c va a hs) (hF : F.Ok) {k : Nat} {y : Hl} (hy : hs[k]? = some y) {x : It} {v5 : Value} {W5 : World}
    (ho : W5.ownsRow F.bs 43 11 v5 (y.l.length + 1) (y.l.flatMap It.cs ++ x.cs)) (hg : W.grownBy W5 y.row.ownBlock) (hloc : v5.ownBlock = y.row.ownBlock ∨ v5.ownBlock = some W.heap.size) :
    CMem F (W5.setCell ⟨F.gP, k, none⟩ v5) c va a (hs.set k ⟨v5, y.l ++ [x]⟩) := by
  have hz := h.size
  have hz5 := hg.size
  have hym := List.mem_of_getElem? hy
  have hkl := (List.getElem?_eq_some_iff.1 hy).1
  have hgy : y.row.ownBlock ≠ some F.gP := fun e => by have := (h.row_bs hym e).1; have := hF.g.1; omega
  have hk : ∀ j, j < W.heap.size → j ≠ F.gP → y.row.ownBlock ≠ some j → (W5.setCell ⟨F.gP, k, none⟩ v5).heap[j]? = W.heap[j]? := fun j hj hne hy => (Below.heap_setCell W5 ⟨F.gP, k, none⟩ v5 j hne).trans (hg.block j hj (fun e => hy e.symm))
  have hsz : (W5.setCell ⟨F.gP, k, none⟩ v5).heap.size = W5.heap.size := by simp [World.setCell]
  have hyn : ∀ j, j < F.bs → y.row.ownBlock ≠ some j := fun j hj e => by have := (h.row_bs hym e).1; omega
  have hS : ∀ j, j < F.bs → j ≠ F.gP → (W5.setCell ⟨F.gP, k, none⟩ v5).heap[j]? = W.heap[j]? := fun j hj hne => hk j (by omega) hne (hyn j hj)
  have o5 : W5.ownsRow 0 32 1 (.slice (some ⟨F.gP, 0, none⟩) F.n F.cP) F.n (hs.flatMap Hl.cs) := own_keep h.own (fun j hj => hg.block j (h.own.lt j hj).2 (fun e => hgy (by rw [← e]; exact hj.symm)))
  obtain ⟨x0, x1, x2, e, hA⟩ := h.A
  have hv5 : ∀ j, v5.ownBlock = some j → y.row.ownBlock = some j ∨ j = W.heap.size := fun j hj => by
    rcases hloc with h2 | h2
    · exact .inl (by rw [← h2]; exact hj)
    · rw [h2] at hj; exact .inr (Option.some.inj hj).symm
  have hlt : ∀ (z : Hl), z ∈ hs → z.row.ownBlock ≠ some W.heap.size := fun z hz e => by have := (h.row_bs hz e).2; omega
  have hmem : ∀ z ∈ hs.set k ⟨v5, y.l ++ [x]⟩, z ∈ hs ∨ z = ⟨v5, y.l ++ [x]⟩ := fun z hz => List.mem_or_eq_of_mem_set hz
  refine ⟨by omega, ⟨x0, x1, x2, e, (hS _ hF.a.1 hF.a.2.2.1).trans hA⟩, (hS _ hF.ok.1 hF.ok.2.2.2.1).trans h.OK, (hS _ hF.p.1 hF.p.2.2.2.1).trans h.P, (hS _ hF.c.1 hF.c.2.1).trans h.C, (hS _ hF.w.1 hF.w.2.2.2.1).trans h.Wn, (hS _ hF.f.1 hF.f.2.2.2.1).trans h.Fn,
    own_held o5 hkl ⟨v5, y.l ++ [x]⟩, by rw [List.length_set]; exact h.len, fun z hzm => ?_, fun i j u v hij hu hv => ?_, h.al.keepIn (fun b hb => hk b (h.al.blk_lt hb) (h.off b hb).2.2.1 ((h.off b hb).2.2.2.2 y hym)) (by omega), fun b hb => ?_, h.want.keep (fun j hj => hS j hj.1 hj.2.2.2.1) (by omega)⟩
  · obtain ⟨i, hi, hiz⟩ := List.getElem_of_mem hzm
    rw [List.length_set] at hi
    by_cases e : k = i
    · subst e
      rw [List.getElem_set_self] at hiz
      subst hiz
      have := own_away ho (g := F.gP) (by
        cases hb : v5.ownBlock with
        | none => exact .inl rfl
        | some j =>
          right
          intro e2
          have hj : j = F.gP := Option.some.inj e2
          rcases hv5 j hb with h2 | h2
          · rw [hj] at h2; exact hgy h2
          · have := hF.g.1; omega) k v5
      rw [List.length_append, List.flatMap_append]
      simpa using this
    · rw [List.getElem_set_ne e] at hiz
      have hzm : z ∈ hs := by rw [← hiz]; exact List.getElem_mem hi
      have hzi : hs[i]? = some z := by rw [List.getElem?_eq_getElem hi, hiz]
      refine own_keep (h.rows z hzm) (fun j hj => hk j (h.row_bs hzm hj).2 (fun e2 => by have := (h.row_bs hzm hj).1; have := hF.g.1; omega) (fun e2 => ?_))
      rcases h.dis i k z y (fun e3 => e e3.symm) hzi hy with h2 | h2
      · rw [h2] at hj
        cases hj
      · exact h2 (by rw [hj, e2])
  · by_cases ei : k = i
    · subst ei
      rw [List.getElem?_set_self hkl] at hu
      injection hu with hu
      subst hu
      rw [List.getElem?_set_ne hij] at hv
      rcases hloc with h2 | h2
      · show v5.ownBlock = none ∨ v5.ownBlock ≠ _
        rw [h2]
        exact h.dis k j y v hij hy hv
      · right
        show v5.ownBlock ≠ _
        rw [h2]
        exact fun e => hlt v (List.mem_of_getElem? hv) e.symm
    · rw [List.getElem?_set_ne ei] at hu
      by_cases ej : k = j
      · subst ej
        rw [List.getElem?_set_self hkl] at hv
        injection hv with hv
        subst hv
        rcases hloc with h2 | h2
        · show _ ∨ _ ≠ v5.ownBlock
          rw [h2]
          exact h.dis i k u y hij hu hy
        · right
          show _ ≠ v5.ownBlock
          rw [h2]
          exact hlt u (List.mem_of_getElem? hu)
      · rw [List.getElem?_set_ne ej] at hv
        exact h.dis i j u v hij hu hv
  · obtain ⟨h1, h2, h3, h4, h5⟩ := h.off b hb
    refine ⟨h1, h2, h3, h4, fun z hzm e2 => ?_⟩
    rcases hmem z hzm with hzm | rfl
    · exact h5 z hzm e2
    · rcases hv5 b e2 with h6 | h6
      · exact h5 y hym h6
      · have := h.al.blk_lt hb
        omega
theorem Kept.put (h : CMem F W c va a hs) (hF : F.Ok) {k : Nat} {y : Hl} (hy : hs[k]? = some y) {x : It} {v5 : Value} {W5 : World} (hg : W.grownBy W5 y.row.ownBlock) (hloc : v5.ownBlock = y.row.ownBlock ∨ v5.ownBlock = some W.heap.size) :
    Kept F W hs (W5.setCell ⟨F.gP, k, none⟩ v5) (hs.set k ⟨v5, y.l ++ [x]⟩) := by
  have hym := List.mem_of_getElem? hy
  have hz5 := hg.size
  refine ⟨⟨hg.os, hg.tape, hg.output⟩, by simp [World.setCell]; omega, fun j hj _ _ hne hr => (Below.heap_setCell W5 ⟨F.gP, k, none⟩ v5 j hne).trans (hg.block j hj (fun e => hr y hym e.symm)), fun z hzm j hj => ?_⟩
  rcases List.mem_or_eq_of_mem_set hzm with hzm | rfl
  · exact .inl ⟨z, hzm, hj⟩
  · rcases hloc with h2 | h2
    · exact .inl ⟨y, hym, by rw [← h2]; exact hj⟩
    · have hj : v5.ownBlock = some j := hj
      rw [h2] at hj
      have := Option.some.inj hj
      exact .inr (by omega)
theorem Kept.setNil {i : Nat} : Kept F W hs (W.setCell ⟨F.gP, i, none⟩ (.slice none 0 0)) (hs.set i hZ) := by
  refine ⟨⟨rfl, rfl, rfl⟩, by simp [World.setCell], fun j hj _ _ hne hr => Below.heap_setCell W ⟨F.gP, i, none⟩ _ j hne, fun z hzm j hj => ?_⟩
  rcases List.mem_or_eq_of_mem_set hzm with hzm | rfl
  · exact .inl ⟨z, hzm, hj⟩
  · simp [hZ, Value.ownBlock] at hj
theorem Kept.one {b : Nat} (hb : b = F.bA ∨ b = F.bC) (hk : ∀ k, k ≠ b → W'.heap[k]? = W.heap[k]?) (hs' : W'.heap.size = W.heap.size) (ho : W'.os = W.os ∧ W'.tape = W.tape ∧ W'.output = W.output) : Kept F W hs W' hs :=
  ⟨ho, by omega, fun k _ h1 h2 _ _ => hk k (by omega), fun h' hh k hk => .inl ⟨h', hh, hk⟩⟩
/-- A box of one cell that is stored to. -/
theorem set1 {w1 : World} {g : Nat} {x0 : Value} {T : TypeId} (h : w1.heap[g]? = some (.cells #[x0] T (0, 0))) (a : Value) : (w1.setCell ⟨g, 0, none⟩ a).heap[g]? = some (.cells #[a] T (0, 0)) := by
  simp [World.setCell, Array.getElem?_modify, h]
theorem set_same {w1 : World} {g : Nat} {x0 : Value} {T : TypeId} (h : w1.heap[g]? = some (.cells #[x0] T (0, 0))) : Below w1.heap.size w1 (w1.setCell ⟨g, 0, none⟩ x0) := by
  refine ⟨rfl, rfl, rfl, by simp [World.setCell], fun k _ => ?_⟩
  by_cases e : k = g
  · subst e
    rw [set1 h, h]
  · exact Below.heap_setCell _ _ _ _ e
/-- Rows of which the first are emptied. -/
def HsZ (i : Nat) (hs hs' : List Hl) : Prop := (∀ j, j < i → hs'[j]? = some hZ) ∧ ∀ j, i ≤ j → hs'[j]? = hs[j]?
theorem HsZ.start (hs : List Hl) : HsZ 0 hs hs := ⟨fun j h => by omega, fun j _ => rfl⟩
theorem HsZ.step {i : Nat} {hs hs' : List Hl} (h : HsZ i hs hs') (hi : i < hs'.length) : HsZ (i + 1) hs (hs'.set i hZ) := by
  refine ⟨fun j hj => ?_, fun j hj => ?_⟩
  · by_cases e : i = j
    · subst e
      exact List.getElem?_set_self hi
    · rw [List.getElem?_set_ne e]
      exact h.1 j (by omega)
  · rw [List.getElem?_set_ne (by omega)]
    exact h.2 j (by omega)
end
end Go.Proofs.Ytenpgkkefielfaa
