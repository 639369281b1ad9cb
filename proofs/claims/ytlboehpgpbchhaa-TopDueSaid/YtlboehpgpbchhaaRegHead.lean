/-
  WORDS: a region that draws, whose two first operations come in one order alone (a load, a call), and of which the rest only reads.
-/
import Derived.Test.YtlboehpgpbchhaaRowsK
import Derived.StillTactics
import Derived.RegionTactic
set_option linter.unusedVariables false
set_option linter.unusedSimpArgs false
namespace Go.Proofs.Ytlboehpgpbchhaa

theorem wp_region_head2 {P : Program} {id : Nat} {o0 o1 : Oper} {rest : List Oper} {Q : Exit → Act → World → Prop} {a : Act} {w : World} (hm : P.follows .mixedOrders = true)
    (hns : Region.noSelect (o0 :: o1 :: rest).toArray = true) (hr0 : Region.ready .any (o0 :: o1 :: rest).toArray (Array.replicate (rest.length + 1 + 1) false) = [0])
    (hr1 : Region.ready .any (o0 :: o1 :: rest).toArray ((Array.replicate (rest.length + 1 + 1) false).setIfInBounds 0 true) = [1])
    (hlex : Region.lexFrom .any (o0 :: o1 :: rest).toArray rest.length 2 (((Array.replicate (rest.length + 1 + 1) false).setIfInBounds 0 true).setIfInBounds 1 true) = true)
    (hg0 : o0.guard = none) (hg1 : o1.guard = none)
    (h : ∀ K1 : Act → World → Prop, (∀ a1 w1, (∀ K2 : Act → World → Prop, (∀ a2 w2, wpStill P (o0 :: o1 :: rest).toArray w2 (fun a3 => Q .normal a3 w2) rest a2 → K2 a2 w2) → o1.wp P a1 w1 K2 Q) → K1 a1 w1) → o0.wp P a w.drew K1 Q) :
    (Code.region id (o0 :: o1 :: rest).toArray true).wp P Q a w := by
  refine wp_region_any hm ?_
  refine wpAny_ready (rs := [0]) hr0 (by simp) (AllReady.cons (o := o0) rfl (fun K hK => ?_) AllReady.nil)
  rw [if_pos (by simp [Region.wanted, hg0])]
  refine h K (fun a1 w1 h1 => hK a1 w1 ?_)
  refine wpAny_ready (rs := [1]) hr1 (by simp) (AllReady.cons (o := o1) rfl (fun K2 hK2 => ?_) AllReady.nil)
  rw [if_pos (by simp [Region.wanted, hg1])]
  refine h1 K2 (fun a2 w2 h2 => hK2 a2 w2 ?_)
  refine wpAny_of_still (Q := fun a3 => Q .normal a3 w2) (fun _ h => h) _ _ _ ?_
  exact wpAnyS_lex hns rest 2 _ a2 (fun j => by simp [Nat.add_comm 2 j]) hlex h2
theorem wpStill_want {P : Program} {ops : Array Oper} {w : World} {Q : Act → Prop} {o : Oper} {rest : List Oper} {a : Act} (hw : Region.wanted o (yielded ops a.tmps) = true) (h : ∀ K : Act → Prop, (∀ a, wpStill P ops w Q rest a → K a) → o.still P a w K) : wpStill P ops w Q (o :: rest) a := by
  unfold wpStill
  rw [if_pos hw]
  exact h _ (fun _ h => h)
theorem wpStill_skip {P : Program} {ops : Array Oper} {w : World} {Q : Act → Prop} {o : Oper} {rest : List Oper} {a : Act} (hw : Region.wanted o (yielded ops a.tmps) = false) (h : ∀ K : Act → Prop, (∀ a, wpStill P ops w Q rest a → K a) → K (a.put o.dst undef)) : wpStill P ops w Q (o :: rest) a := by
  unfold wpStill
  rw [if_neg (by rw [hw]; simp)]
  exact h _ (fun _ h => h)
theorem wpStill_value {P : Program} {ops : Array Oper} {w : World} {Q : Act → Prop} {o : Oper} {rest : List Oper} {a a' : Act} {v : Value} (hw : Region.wanted o (yielded ops a.tmps) = true) (hx : (execOp a.eval o).run P w = .ok (.value v) w) (hp : a.put o.dst v = a') (h : wpStill P ops w Q rest a') : wpStill P ops w Q (o :: rest) a := by
  unfold wpStill
  rw [if_pos hw]
  unfold Oper.still
  rw [hx, Oper.stillUpon_value, hp]
  exact h
theorem wpStill_none {P : Program} {ops : Array Oper} {w : World} {Q : Act → Prop} {o : Oper} {rest : List Oper} {a a' : Act} (hw : Region.wanted o (yielded ops a.tmps) = false) (hp : a.put o.dst undef = a') (h : wpStill P ops w Q rest a') : wpStill P ops w Q (o :: rest) a := by
  unfold wpStill
  rw [if_neg (by rw [hw]; simp), hp]
  exact h
end Go.Proofs.Ytlboehpgpbchhaa
