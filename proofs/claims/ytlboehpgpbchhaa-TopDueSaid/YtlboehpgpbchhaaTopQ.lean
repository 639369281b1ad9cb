/-
  A RANGE OVER A FUNCTION whose iterator keeps a state of its own in the first cells that it lays, or ranges over another one within: the law of the statement for such an iterator.
-/
import Derived.RangeFuncNested
import Derived.RangeFuncBound
import Derived.RangeFuncCalls
import Derived.RangeFuncLeaves
set_option linter.unusedVariables false
set_option linter.unusedSimpArgs false
namespace Go.Proofs.Ytlboehpgpbchhaa
open Go.RowKit

/-- What J says stays, whatever new blocks come, whichever of the blocks B .. B + K - 1 turns, whichever block beyond B that is no cells. -/
def AbQ {β : Type} (B K : Nat) (J : β → World → Prop) : Prop :=
  ∀ s W W' row, J s W → W.grownBy W' row → (∀ r, row = some r → B ≤ r ∧ (r < B + K ∨ ∃ o : Obj, W.heap[r]? = some o ∧ o.isCells = false)) → J s W'
theorem AbQ.put {β : Type} {B K : Nat} {J : β → World → Prop} (h : AbQ B K J) {s : β} {W : World} {l : Nat} {o : Obj} (o' : Obj) (hs : J s W) (hB : B ≤ l) (hl : W.heap[l]? = some o) (ho : o.isCells = false) : J s (W.putObj l o') :=
  h s W _ (some l) hs (grownBy_putObj' W l o') (fun r e => by cases e; exact ⟨hB, .inr ⟨o, hl, ho⟩⟩)
theorem AbQ.new {β : Type} {B K : Nat} {J : β → World → Prop} (h : AbQ B K J) {s : β} {W : World} (o : Obj) (hs : J s W) : J s (W.alloc o) :=
  h s W _ none hs (World.grownBy_alloc W o none) (fun r e => by cases e)
theorem AbQ.bel {β : Type} {B K : Nat} {J : β → World → Prop} (h : AbQ B K J) {s : β} {W W' : World} (hs : J s W) (hb : Below W.heap.size W W') : J s W' :=
  h s W W' none hs ⟨hb.os, hb.tape, hb.output, hb.size, fun k hk _ => hb.block k hk⟩ (fun r e => by cases e)
theorem AbQ.both {β : Type} {B K : Nat} {I J : β → World → Prop} (h : AbQ B K I) (h' : AbQ B K J) : AbQ B K (fun s W => I s W ∧ J s W) :=
  fun s W W' row hs hg hr => ⟨h s W W' row hs.1 hg hr, h' s W W' row hs.2 hg hr⟩
theorem AbQ.pure {β : Type} (B K : Nat) (p : β → Prop) : AbQ B K (fun s (_ : World) => p s) := fun _ _ _ _ hs _ _ => hs

/-- What a round that goes on keeps: what lay below n0; the blocks of ks; the blocks B .. B + K - 1; whatever is no cells beyond B. -/
structure KeptQ (n0 : Nat) (ks : List Nat) (B K : Nat) (W W' : World) : Prop where
  low : Below n0 W W'
  fix : ∀ k ∈ ks, ∀ o, W.heap[k]? = some o → W'.heap[k]? = some o
  mid : ∀ (k : Nat) (o : Obj), B ≤ k → W.heap[k]? = some o → (k < B + K ∨ o.isCells = false) → W'.heap[k]? = some o
theorem KeptQ.refl (n0 : Nat) (ks : List Nat) (B K : Nat) (W : World) : KeptQ n0 ks B K W W := ⟨Below.refl _ _, fun _ _ _ h => h, fun _ _ _ h _ => h⟩
theorem KeptQ.trans {n0 : Nat} {ks : List Nat} {B K : Nat} {X Y Z : World} (h : KeptQ n0 ks B K X Y) (k : KeptQ n0 ks B K Y Z) : KeptQ n0 ks B K X Z :=
  ⟨h.low.trans k.low, fun i hk o hi => k.fix i hk o (h.fix i hk o hi), fun i o hB hi ho => k.mid i o hB (h.mid i o hB hi ho) ho⟩
theorem KeptQ.shift {n0 : Nat} {ks ks' : List Nat} {B B' K K' : Nat} {X Y : World} (h : KeptQ n0 ks B K X Y) (hks : ∀ k ∈ ks', k ∈ ks ∨ (B ≤ k ∧ k < B + K)) (hB : B ≤ B') (hK : B' + K' ≤ B + K) : KeptQ n0 ks' B' K' X Y :=
  ⟨h.low, fun k hk o h1 => by rcases hks k hk with h2 | h2; exact h.fix k h2 o h1; exact h.mid k o h2.1 h1 (.inl h2.2), fun i o hi h1 ho => h.mid i o (by omega) h1 (by rcases ho with ho | ho; exact .inl (by omega); exact .inr ho)⟩
theorem KeptQ.put {n0 : Nat} {ks : List Nat} {B K : Nat} (W : World) {l : Nat} (o' : Obj) (hn : n0 ≤ l) (hks : ∀ k ∈ ks, k ≠ l) (hB : l < B) (hl : l < W.heap.size) : KeptQ n0 ks B K W (W.putObj l o') :=
  ⟨(Below.refl _ _).grown (grownBy_putObj' W l o') (by omega) (fun k e => by cases e; exact hn), fun k hk o h => by rw [World.putObj_heap_other (hks k hk)]; exact h, fun k o hk h _ => by rw [World.putObj_heap_other (by omega)]; exact h⟩
theorem KeptQ.bel {n0 : Nat} {ks : List Nat} {B K : Nat} {W W' : World} (hb : Below W.heap.size W W') (hn : n0 ≤ W.heap.size) : KeptQ n0 ks B K W W' :=
  ⟨hb.mono hn, fun k _ o h => by rw [hb.block k (Array.getElem?_eq_some_iff.1 h).1]; exact h, fun k o _ h _ => by rw [hb.block k (Array.getElem?_eq_some_iff.1 h).1]; exact h⟩
theorem KeptQ.grown {n0 : Nat} {ks : List Nat} {B K : Nat} {W W' : World} {row : Option Nat} (hg : W.grownBy W' row) (hn : n0 ≤ W.heap.size) (hr : ∀ k, row = some k → n0 ≤ k ∧ k ∉ ks ∧ (∃ o : Obj, W.heap[k]? = some o ∧ o.isCells = true) ∧ (k < B ∨ B + K ≤ k)) : KeptQ n0 ks B K W W' :=
  ⟨(Below.refl _ _).grown hg hn (fun k e => (hr k e).1), fun k hk o h => by
    rw [hg.block k (Array.getElem?_eq_some_iff.1 h).1 (fun e => (hr k e.symm).2.1 hk)]; exact h, fun k o hk h ho => by
    rw [hg.block k (Array.getElem?_eq_some_iff.1 h).1 (fun e => by
      obtain ⟨-, -, ⟨o', h', hc⟩, hd⟩ := hr k e.symm
      rw [h] at h'
      cases h'
      rcases ho with ho | ho
      · omega
      · rw [ho] at hc; cases hc)]
    exact h⟩

/-- 'out = append(out, ..)' in a round, out in a box. -/
theorem push_q {W w1 : World} {n0 : Nat} {ks : List Nat} {B K b : Nat} {t e : TypeId} {sz k m : Nat} {v v' : Value} {xs ys : List Value} {tmp : Obj} (hv : Boxed W b t v) (hrow : W.ownsRow (B + K) e sz v k xs) (hn0 : n0 ≤ b) (hbB : b < B)
    (hks : ∀ j ∈ ks, j ≠ b ∧ j < B) (hsz : B + K ≤ W.heap.size) (hown : w1.ownsRow (B + K) e sz v' m ys) (hgrow : (W.alloc tmp).grownBy w1 v.ownBlock) :
    Boxed w1 b t v ∧ Boxed (w1.setCell ⟨b, 0, none⟩ v') b t v' ∧ (w1.setCell ⟨b, 0, none⟩ v').ownsRow (B + K) e sz v' m ys ∧ KeptQ n0 ks B K W (w1.setCell ⟨b, 0, none⟩ v') := by
  have hlt : ∀ j, v.ownBlock = some j → B + K ≤ j ∧ j < W.heap.size := fun j hj => hrow.lt j hj
  have hv1 : Boxed w1 b t v := (hv.alloc tmp).kept hgrow (fun e => by have := (hlt b e.symm).1; omega)
  refine ⟨hv1, hv1.set v', hown.kept (grownBy_setCell' w1 b v') (.inr fun e => by have := (hown.lt b e).1; omega), ?_⟩
  refine (KeptQ.bel ((Below.refl _ W).alloc (Nat.le_refl _) tmp) (by omega)).trans ((KeptQ.grown hgrow (by simp; omega) ?_).trans (KeptQ.grown (grownBy_setCell' w1 b v') (by have := hv1.lt; omega) ?_))
  · intro j hj
    obtain ⟨h1, h2⟩ := hlt j hj
    refine ⟨by omega, fun h => by have := (hks j h).2; omega, ?_, .inr h1⟩
    rcases (hrow.alloc tmp).2 with ⟨rfl, _⟩ | ⟨g, cap, cur, rfl, _, hgb, _⟩
    · cases hj
    · cases hj
      exact ⟨_, hgb, rfl⟩
  · intro j hj
    cases hj
    exact ⟨hn0, fun h => (hks b h).1 rfl, ⟨_, hv1, rfl⟩, .inl hbB⟩
/-- A loop variable's box, laid in the round. -/
theorem boxAx_ab (B0 K : Nat) (f : Nat → Act) (o : Obj) (hc : o.isCells = true) (a' : Act) : AbQ B0 K (fun (_ : Unit) W => ∃ B, B0 + K ≤ B ∧ W.heap[B]? = some o ∧ a' = f B) := by
  rintro _ X Y row ⟨B, hB, ho, ha⟩ hg hr
  refine ⟨B, hB, ?_, ha⟩
  rw [hg.block B (Array.getElem?_eq_some_iff.1 ho).1 (fun e => ?_)]
  · exact ho
  · obtain ⟨h1, h2⟩ := hr _ e.symm
    rcases h2 with h2 | ⟨o', ho', hn⟩
    · omega
    · rw [ho] at ho'
      cases ho'
      rw [hc] at hn
      cases hn

/-- The contract of such an iterator. -/
def SeqQ {α : Type} (F : Fence) (n : Nat) (P : Program) (g : Nat) (lb : Array Value) (encs : α → Array Value) (n0 : Nat) (ks : List Nat) (K : Nat) (S Sp : List α → Prop) (N : Nat) (w : World) : Prop :=
  ∀ (l : Nat) (J Jx : List α → World → Prop) (W : World), Below w.heap.size w W → AbQ W.heap.size K J → AbQ W.heap.size K Jx →
    (∀ pre x W1, W.heap.size + K ≤ W1.heap.size → J pre W1 → pre.length < N → YieldAt F (n - 1) P l (encs x) W1 fun e W' =>
      (e = .returned (.bool true) ∧ J (pre ++ [x]) W' ∧ KeptQ n0 ks W.heap.size K W1 W') ∨ (e = .returned (.bool false) ∧ Jx (pre ++ [x]) W' ∧ KeptQ n0 ks W.heap.size K W1 W')) →
    J [] W →
    CallsIn F n P g (#[.func (.yield l) #[] #[]] ++ lb) W fun e W' => (∃ v, e = .returned v) ∧ ((∃ xs, S xs ∧ J xs W') ∨ (∃ pre, Sp pre ∧ Jx pre W'))

/-- How the body of a round may be left. -/
def postQ {α : Type} (n0 : Nat) (ks : List Nat) (B K : Nat) (I : List α → World → Prop) (Ix : Code → List α → World → Prop) (xs : List α) (W : World) : Exit → Act → World → Prop
  | .normal, _, W' => KeptQ n0 ks B K W W' ∧ I xs W'
  | .ret, _, W' => KeptQ n0 ks B K W W' ∧ Ix .ret xs W'
  | .exit id, _, W' => KeptQ n0 ks B K W W' ∧ Ix (.exit id) xs W'
  | .goto t, _, W' => KeptQ n0 ks B K W W' ∧ Ix (.goto t) xs W'
  | .panic _, _, _ => False
  | .outgrown, _, _ => False

/-- An end that bears no panic: a region that draws wants the panic's end to be blind to the activation. -/
def noP (Q : Exit → Act → World → Prop) : Exit → Act → World → Prop
  | .normal, a, w => Q .normal a w
  | _, _, _ => False
theorem wpIn_noP {F : Fence} {n : Nat} {P : Program} {c : Code} {Q : Exit → Act → World → Prop} {a : Act} {w : World} (h : c.wpIn F n P (noP Q) a w) : c.wpIn F n P Q a w :=
  wpIn_mono h (by
    intro e a w h
    cases e with
    | normal => exact h
    | exit id => exact h.elim
    | goto l => exact h.elim
    | ret => exact h.elim
    | panic ch => exact h.elim
    | outgrown => exact h.elim)
theorem room_none (k : Nat) : Fence.wide.room k := fun d h => by cases h
/-- At the wide fence a round may be asked for anywhere. -/
theorem yieldAny {m : Nat} (m' l0 : Nat) {P : Program} {l : Nat} {args : Array Value} {W : World} {R : Ending → World → Prop} (h : YieldAt Fence.wide m P l args W R) : YieldAt (Fence.wide.inRound l0) m' P l args W R := by
  obtain ⟨fn, tmps, assign, body, hy, hR⟩ := h
  exact ⟨fn, tmps, assign, body, hy, ⟨hR.1, fun c cs _ => hR.2 c cs (room_none _)⟩⟩
variable {F : Fence} {n : Nat} {P : Program}
/-- THE STATEMENT. -/
theorem wpIn_rangeFunc_Q {α : Type} {g : Operand} {ps : Array Tmp} {assign body : Code} {Q : Exit → Act → World → Prop} {a : Act} {w : World}
    (hro : F.round = none) (h1 : 1 ≤ n) {gf : Nat} {lb : Array Value} (hg : a.eval g = .func (.func gf) #[] lb) (hFg : F.fn gf) (eg : ∀ args w, (callFunc gf args).run P w = .ok (.enter gf args) w)
    {encs : α → Array Value} {n0 K : Nat} {ks : List Nat} {S Sp : List α → Prop} {N : Nat} {w0 : World} (hseq : SeqQ F (n - 1) P gf lb encs n0 ks K S Sp N w0) (hn0 : n0 ≤ w.heap.size) (hks : ∀ k ∈ ks, k < w.heap.size)
    (hb0 : Below w0.heap.size w0 w) (hps : ∀ x, (encs x).size = ps.size)
    (I : List α → World → Prop) (Ix : Code → List α → World → Prop) (hI : AbQ w.heap.size (K + 2) I) (hIx : ∀ c, AbQ w.heap.size (K + 2) (Ix c)) (h0 : I [] w) (Ax : α → Act → World → Prop) (hAx : ∀ x a', AbQ w.heap.size (K + 2) (fun (_ : Unit) W => Ax x a' W))
    (hassign : ∀ (l : Nat) (pre : List α) (x : α) (W : World) (Kc : Act → World → Prop), w.heap.size + (K + 2) ≤ W.heap.size → I pre W → (∀ a' W', KeptQ n0 ks w.heap.size (K + 2) W W' → I pre W' → Ax x a' W' → Kc a' W') →
      assign.wpIn (F.inRound l) (n - 1 - 1) P (Exit.then Kc (fun _ _ _ => False)) { tmps := (ps.zip (encs x)).foldl (fun t (p, v) => t.setIfInBounds p v) a.tmps, defers := [] } W)
    (hbody : ∀ (l : Nat) (pre : List α) (x : α) (a' : Act) (W : World), w.heap.size + (K + 2) ≤ W.heap.size → I pre W → Ax x a' W → pre.length < N → body.wpIn (F.inRound l) (n - 1 - 1) P (postQ n0 ks w.heap.size (K + 2) I Ix (pre ++ [x]) W) a' W)
    (hdone : ∀ (D : Nat) (xs : List α) (W : World), w.heap.size ≤ D → S xs → I xs W → W.heap[D]? = some (.deferred (some [])) → Q .normal { a with defers := { target := .collected D, args := #[] } :: a.defers } W)
    (hstop : ∀ (D : Nat) (c : Code) (pre : List α) (W : World), w.heap.size ≤ D → Sp pre → Ix c pre W → W.heap[D]? = some (.deferred (some [])) → c.wpIn F n P Q { a with defers := { target := .collected D, args := #[] } :: a.defers } W) :
    (Code.rangeFunc g ps assign body).wpIn F n P Q a w := by
  refine wpIn_rangeFunc ?_
  intro fn hfn
  rw [hro]
  obtain ⟨rec, hrec⟩ : ∃ rec : LoopState → Option Code → Loop, rec = fun st pe => { state := st, pending := pe, fn, tmps := a.tmps, params := ps, assign, body, defers := w.heap.size } := ⟨_, rfl⟩
  obtain ⟨W1, hW1⟩ : ∃ W1, (w.alloc (.deferred (some []))).alloc (.loop (rec .ready none)) = W1 := ⟨_, rfl⟩
  have hz1 : W1.heap.size = w.heap.size + 2 := by rw [← hW1]; simp
  have hL1 : W1.heap[w.heap.size + 1]? = some (.loop (rec .ready none)) := by
    rw [← hW1]; have := World.alloc_heap_new (w.alloc (.deferred (some []))) (.loop (rec .ready none)); rwa [World.size_alloc] at this
  have hK1 : W1.heap[w.heap.size]? = some (.deferred (some [])) := by
    rw [← hW1]; exact (Below.heap_alloc _ _ _ (by simp)).trans (World.alloc_heap_new w _)
  have hI1 : I [] W1 := by rw [← hW1]; exact hI.new _ (hI.new _ h0)
  have hb1 : Below w0.heap.size w0 W1 := by
    rw [← hW1]; exact hb0.trans ((((Below.refl _ w).alloc (Nat.le_refl _) _).alloc (by simp) _).mono hb0.size)
  refine ⟨w.heap.size + 1, [{ target := .collected w.heap.size, args := #[] }], W1, { target := .fn (.func gf) lb, args := #[.func (.yield (w.heap.size + 1)) #[] #[]] }, W1, gf,
    #[.func (.yield (w.heap.size + 1)) #[] #[]] ++ lb, W1, ?_, ?_, ?_, ?_, fun _ => h1, ?_⟩
  · rw [← hW1, hrec]; exact run_enterLoop_outer _ _ _ _ _
  · simp only [resolve, hg]
    simp [go_sem]
  · intro f' hf'; simp [Target.leads] at hf'; subst hf'; exact hFg
  · simp [invoke, go_sem, eg]
  · have hrow : ∀ {A : World} {row : Option Nat}, (∀ r, row = some r → W1.heap.size ≤ r ∧ (r < W1.heap.size + K ∨ ∃ o : Obj, A.heap[r]? = some o ∧ o.isCells = false)) → (∀ r, row = some r → w.heap.size ≤ r ∧ (r < w.heap.size + (K + 2) ∨ ∃ o : Obj, A.heap[r]? = some o ∧ o.isCells = false)) :=
      fun hr r e => by obtain ⟨hB, ho⟩ := hr r e; exact ⟨by omega, by rcases ho with ho | ho; exact .inl (by omega); exact .inr ho⟩
    have hold : ∀ {A B : World} {row : Option Nat} {k : Nat} {o : Obj}, A.grownBy B row → (∀ r, row = some r → W1.heap.size ≤ r ∧ (r < W1.heap.size + K ∨ ∃ o : Obj, A.heap[r]? = some o ∧ o.isCells = false)) → k < W1.heap.size → A.heap[k]? = some o → B.heap[k]? = some o :=
      fun hg hr hk h => (hg.block _ (Array.getElem?_eq_some_iff.1 h).1 (fun e => by have := (hr _ e.symm).1; omega)).trans h
    refine (hseq (w.heap.size + 1)
      (fun pre W => I pre W ∧ W.heap[w.heap.size + 1]? = some (.loop (rec .ready none)) ∧ W.heap[w.heap.size]? = some (.deferred (some [])))
      (fun pre W => ∃ c, Ix c pre W ∧ W.heap[w.heap.size + 1]? = some (.loop (rec .done (some c))) ∧ W.heap[w.heap.size]? = some (.deferred (some [])))
      W1 hb1
      (fun s A B row hs hg' hr => ⟨hI s A B row hs.1 hg' (hrow hr), hold hg' hr (by omega) hs.2.1, hold hg' hr (by omega) hs.2.2⟩)
      (fun s A B row hs hg' hr => by
        obtain ⟨c, hc, hl, hk⟩ := hs
        exact ⟨c, hIx c s A B row hc hg' (hrow hr), hold hg' hr (by omega) hl, hold hg' hr (by omega) hk⟩)
      ?_ ⟨hI1, hL1, hK1⟩).mono ?_
    · rintro pre x W hsK ⟨hi, hl, hk⟩ hlen
      have hlt : w.heap.size + 1 < W.heap.size := (Array.getElem?_eq_some_iff.1 hl).1
      have hy := run_yield (P := P) (args := encs x) hl (by rw [hrec]; exact hps x)
      rw [hrec] at hy
      refine ⟨fn, _, assign, body, hy, roundIn_of_wpIn hfn (hassign _ pre x W _ (by omega) hi ?_)⟩
      clear hy
      intro a' Wa hka hia hax
      replace hl := hka.mid _ _ (by omega) hl (.inr rfl)
      replace hk := hka.mid _ _ (Nat.le_refl _) hk (.inr rfl)
      replace hlt : w.heap.size + 1 < Wa.heap.size := (Array.getElem?_eq_some_iff.1 hl).1
      replace hi := hia
      have hsK2 := hka.low.size
      clear hia
      revert hka
      generalize W = Wb
      intro hka
      obtain ⟨W, rfl⟩ : ∃ W, W = Wa := ⟨_, rfl⟩
      refine ⟨_, run_beginRound hl (by rw [hrec]), ?_⟩
      have hl2 : (W.putObj (w.heap.size + 1) (.loop { rec .ready none with state := .busy })).heap[w.heap.size + 1]? = some (.loop { rec .ready none with state := .busy }) := World.putObj_heap_same hlt
      have hk2 : (W.putObj (w.heap.size + 1) (.loop { rec .ready none with state := .busy })).heap[w.heap.size]? = some (.deferred (some [])) := (World.putObj_heap_other (by omega)).trans hk
      have hw2 : KeptQ n0 ks W1.heap.size K W (W.putObj (w.heap.size + 1) (.loop { rec .ready none with state := .busy })) := KeptQ.put _ _ (by omega) (fun k hk e => by have := hks k hk; omega) (by omega) hlt
      refine wpIn_mono (hbody _ pre x a' _ (by simp; omega) (hI.put _ hi (by omega) hl rfl) ((hAx x a').put (s := ()) _ hax (by omega) hl rfl) hlen) ?_
      have fin : ∀ (jump : Option Code) (W3 : World), KeptQ n0 ks w.heap.size (K + 2) (W.putObj (w.heap.size + 1) (.loop { rec .ready none with state := .busy })) W3 →
          (Instr.endRound (w.heap.size + 1) jump).run P W3 = .ok (.bool jump.isNone) (W3.putObj (w.heap.size + 1) (.loop (rec (if jump.isNone then .ready else .done) jump))) ∧
          W3.heap[w.heap.size + 1]? = some (.loop { rec .ready none with state := .busy }) ∧
          (W3.putObj (w.heap.size + 1) (.loop (rec (if jump.isNone then .ready else .done) jump))).heap[w.heap.size + 1]? = some (.loop (rec (if jump.isNone then .ready else .done) jump)) ∧
          (W3.putObj (w.heap.size + 1) (.loop (rec (if jump.isNone then .ready else .done) jump))).heap[w.heap.size]? = some (.deferred (some [])) := fun jump W3 hk3 => by
        have hl3 := hk3.mid _ _ (by omega) hl2 (.inr rfl)
        have := run_endRound (P := P) jump hl3
        rw [hrec] at this ⊢
        exact ⟨this, by rw [hrec] at hl3; exact hl3, World.putObj_heap_same (Array.getElem?_eq_some_iff.1 hl3).1, (World.putObj_heap_other (by omega)).trans (hk3.mid _ _ (Nat.le_refl _) hk2 (.inr rfl))⟩
      rintro e a3 W3 hp
      cases e with
      | normal =>
        obtain ⟨hk3, hi3⟩ := hp
        obtain ⟨hr, hl3, hl4, hk4⟩ := fin none W3 hk3
        exact ⟨_, _, hr, .inl ⟨rfl, ⟨hI.put _ hi3 (by omega) hl3 rfl, hl4, hk4⟩, ((hka.shift (fun k hk => .inl hk) (by omega) (by omega)).trans (hw2.trans (hk3.shift (fun k hk => .inl hk) (by omega) (by omega)))).trans (KeptQ.put _ _ (by omega) (fun k hk e => by have := hks k hk; omega) (by omega) (Array.getElem?_eq_some_iff.1 hl3).1)⟩⟩
      | ret =>
        obtain ⟨hk3, hi3⟩ := hp
        obtain ⟨hr, hl3, hl4, hk4⟩ := fin (some .ret) W3 hk3
        exact ⟨_, _, hr, .inr ⟨rfl, ⟨.ret, (hIx _).put _ hi3 (by omega) hl3 rfl, hl4, hk4⟩, ((hka.shift (fun k hk => .inl hk) (by omega) (by omega)).trans (hw2.trans (hk3.shift (fun k hk => .inl hk) (by omega) (by omega)))).trans (KeptQ.put _ _ (by omega) (fun k hk e => by have := hks k hk; omega) (by omega) (Array.getElem?_eq_some_iff.1 hl3).1)⟩⟩
      | exit id =>
        obtain ⟨hk3, hi3⟩ := hp
        obtain ⟨hr, hl3, hl4, hk4⟩ := fin (some (.exit id)) W3 hk3
        exact ⟨_, _, hr, .inr ⟨rfl, ⟨.exit id, (hIx _).put _ hi3 (by omega) hl3 rfl, hl4, hk4⟩, ((hka.shift (fun k hk => .inl hk) (by omega) (by omega)).trans (hw2.trans (hk3.shift (fun k hk => .inl hk) (by omega) (by omega)))).trans (KeptQ.put _ _ (by omega) (fun k hk e => by have := hks k hk; omega) (by omega) (Array.getElem?_eq_some_iff.1 hl3).1)⟩⟩
      | goto t =>
        obtain ⟨hk3, hi3⟩ := hp
        obtain ⟨hr, hl3, hl4, hk4⟩ := fin (some (.goto t)) W3 hk3
        exact ⟨_, _, hr, .inr ⟨rfl, ⟨.goto t, (hIx _).put _ hi3 (by omega) hl3 rfl, hl4, hk4⟩, ((hka.shift (fun k hk => .inl hk) (by omega) (by omega)).trans (hw2.trans (hk3.shift (fun k hk => .inl hk) (by omega) (by omega)))).trans (KeptQ.put _ _ (by omega) (fun k hk e => by have := hks k hk; omega) (by omega) (Array.getElem?_eq_some_iff.1 hl3).1)⟩⟩
      | panic ch => exact hp.elim
      | outgrown => exact hp.elim
    · rintro e W2 ⟨⟨v, rfl⟩, (⟨xs, hS, hi, hl, hk⟩ | ⟨pre, hSp, c, hi, hl, hk⟩)⟩
      · exact ⟨none, _, by have := run_endLoop (P := P) hl (by rw [hrec]; simp); rw [hrec] at this; exact this, hdone _ xs _ (Nat.le_refl _) hS (hI.put _ hi (by omega) hl rfl) ((World.putObj_heap_other (by omega)).trans hk)⟩
      · exact ⟨some c, _, by have := run_endLoop (P := P) hl (by rw [hrec]; simp); rw [hrec] at this; exact this, hstop _ c pre _ (Nat.le_refl _) hSp ((hIx c).put _ hi (by omega) hl rfl) ((World.putObj_heap_other (by omega)).trans hk)⟩
end Go.Proofs.Ytlboehpgpbchhaa
