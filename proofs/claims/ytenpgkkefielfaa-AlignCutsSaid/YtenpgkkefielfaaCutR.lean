/-
  WORDS of the law AlignCuts: a region whose loads are taken first, while a condition holds up to its last stores.
-/
import Derived.Test.YtenpgkkefielfaaCutA
import Derived.OrdersHeld
import Derived.StillTail
set_option linter.unusedVariables false
set_option linter.unusedSimpArgs false
namespace Go.Proofs.Ytenpgkkefielfaa
open Go.RowKit

section
variable {P : Program} {ops : Array Oper} {Q : Exit → Act → World → Prop} {md : Region.Mode} {S : World → Prop} {late : Nat → Bool}
/-- Whatever order is picked: S holds behind each operation that is none of the last. -/
def wpAnyG (P : Program) (md : Region.Mode) (ops : Array Oper) (Q : Exit → Act → World → Prop) (S : World → Prop) (late : Nat → Bool) : Nat → Array Bool → Act → World → Prop
  | 0, listed, a, w => Region.ready md ops listed = [] ∧ Q .normal a w
  | fuel + 1, listed, a, w =>
    (Region.ready md ops listed = [] → Q .normal a w) ∧
    ∀ i ∈ Region.ready md ops listed, wpOp P ops Q i (fun a' w' => (late i = true ∨ S w') ∧ wpAnyG P md ops Q S late fuel (listed.setIfInBounds i true) a' w') a w
theorem wpAny_of_G : ∀ (fuel : Nat) (listed : Array Bool) (a : Act) (w : World), wpAnyG P md ops Q S late fuel listed a w → wpAny P md ops Q fuel listed a w
  | 0, _, _, _, h => h
  | fuel + 1, _, _, _, h => ⟨h.1, fun i hi => wpOp_mono (fun a' w' h' => wpAny_of_G fuel _ a' w' h'.2) (h.2 i hi)⟩
def Closed (md : Region.Mode) (ops : Array Oper) (listed : Array Bool) : Prop := ∀ j oj, ops[j]? = some oj → listed.getD j false = true → ∀ e ∈ oj.after, Region.binds md e = true → listed.getD e.on false = true
theorem Closed.set {j : Nat} {listed : Array Bool} (h : Closed md ops listed) (hj : j ∈ Region.ready md ops listed) : Closed md ops (listed.setIfInBounds j true) := by
  obtain ⟨_, oi, hoi, hall⟩ := mem_ready.1 hj
  intro k ok hk hl e he hb
  by_cases hij : j = k
  · subst hij
    have : ok = oi := Option.some.inj (hk.symm.trans hoi)
    subst this
    exact getD_set_true (hall e he hb)
  · rw [getD_set_ne false hij] at hl
    exact getD_set_true (h k ok hk hl e he hb)
/-- It waits for it, or for one that waits for it. -/
def waitsN (md : Region.Mode) (ops : Array Oper) (i : Nat) : Nat → Nat → Bool
  | 0, _ => false
  | f + 1, j => Region.waitsFor md ops j i || (List.range ops.size).any fun m => Region.waitsFor md ops j m && waitsN md ops i f m
theorem waitsN_not {i : Nat} {listed : Array Bool} (hc : Closed md ops listed) (hi : listed.getD i false = false) : ∀ f j, waitsN md ops i f j = true → listed.getD j false = false
  | 0, _, h => by simp [waitsN] at h
  | f + 1, j, h => by
    cases hj : listed.getD j false with
    | false => rfl
    | true =>
      exfalso
      unfold waitsN at h
      rw [Bool.or_eq_true, List.any_eq_true] at h
      rcases h with h | ⟨m, -, h⟩
      · obtain ⟨o, ho, e, he, hb, hon⟩ := Region.waitsFor_spec h
        have h1 := hc j o ho hj e he hb
        rw [hon, hi] at h1
        cases h1
      · rw [Bool.and_eq_true] at h
        obtain ⟨o, ho, e, he, hb, hon⟩ := Region.waitsFor_spec h.1
        have h1 := hc j o ho hj e he hb
        rw [hon, waitsN_not hc hi f m h.2] at h1
        cases h1
theorem waitsN_ready {i j : Nat} {listed : Array Bool} (hc : Closed md ops listed) (hi : listed.getD i false = false) (hr : j ∈ Region.ready md ops listed) : ∀ f, waitsN md ops i f j = true → False
  | 0, h => by simp [waitsN] at h
  | f + 1, h => by
    obtain ⟨_, oj, hoj, hall⟩ := mem_ready.1 hr
    unfold waitsN at h
    rw [Bool.or_eq_true, List.any_eq_true] at h
    rcases h with h | ⟨m, -, h⟩
    · obtain ⟨o, ho, e, he, hb, hon⟩ := Region.waitsFor_spec h
      have : o = oj := Option.some.inj (ho.symm.trans hoj)
      subst this
      have h1 := hall e he hb
      rw [hon, hi] at h1
      cases h1
    · rw [Bool.and_eq_true] at h
      obtain ⟨o, ho, e, he, hb, hon⟩ := Region.waitsFor_spec h.1
      have : o = oj := Option.some.inj (ho.symm.trans hoj)
      subst this
      have h1 := hall e he hb
      rw [hon, waitsN_not hc hi f m h.2] at h1
      cases h1
theorem wpAnyG_first {i : Nat} {oi : Oper} {v : Value} (hi : ops[i]? = some oi) (hsel : ∀ (j : Nat) (o : Oper) cs b, ops[j]? = some o → o.op ≠ .select cs b)
    (hl : ∀ j, j < ops.size → late j = true → waitsN md ops i ops.size j = true)
    (hQ : ∀ c a w, Q (.panic c) (a.put oi.dst v) w → Q (.panic c) a w) :
    ∀ (fuel : Nat) (listed : Array Bool) (a : Act) (w : World), Closed md ops listed →
      (∀ j oj, ops[j]? = some oj → j ≠ i → listed.getD j true = false → (∀ e ∈ oj.after, Region.binds md e = true → e.on ≠ i) → oi.apart ops oj = true) →
      i ∈ Region.ready md ops listed → YieldsIf P ops S oi v a → S w →
      wpAnyG P md ops Q S late fuel (listed.setIfInBounds i true) (a.put oi.dst v) w → wpAnyG P md ops Q S late (fuel + 1) listed a w := by
  intro fuel
  induction fuel with
  | zero =>
    intro listed a w _ _ hr hy hS H
    refine ⟨fun h => (by rw [h] at hr; cases hr), fun j hj => ?_⟩
    by_cases hji : j = i
    · subst hji; exact hy.wpOp hi hS ⟨.inr hS, H⟩
    · have := ready_mono hj hji
      rw [H.1] at this
      cases this
  | succ fuel ih =>
    intro listed a w hcl hfree hr hy hS H
    refine ⟨fun h => (by rw [h] at hr; cases hr), fun j hj => ?_⟩
    by_cases hji : j = i
    · subst hji; exact hy.wpOp hi hS ⟨.inr hS, H⟩
    · have h1 := H.2 j (ready_mono hj hji)
      obtain ⟨hjun, oj, hoj, hall⟩ := mem_ready.1 hj
      have hnot : ∀ e ∈ oj.after, Region.binds md e = true → e.on ≠ i := fun e he hb heq => by
        have h1 := hall e he hb
        have h0 := (mem_ready.1 hr).1
        rw [heq] at h1
        rcases Nat.lt_or_ge i listed.size with h' | h'
        · simp [h'] at h0 h1; rw [h0] at h1; cases h1
        · simp [Array.getElem?_eq_none h'] at h1
      have h2 := wpOp_putIf hoj (hfree j oj hoj hji hjun hnot) (fun cs b => hsel i oi cs b hi) (fun cs b => hsel j oj cs b hoj) hQ hy h1
      have hfree' : ∀ k ok, ops[k]? = some ok → k ≠ i → (listed.setIfInBounds j true).getD k true = false →
          (∀ e ∈ ok.after, Region.binds md e = true → e.on ≠ i) → oi.apart ops ok = true := fun k ok hk hki hun hno => by
        refine hfree k ok hk hki ?_ hno
        by_cases hjk : j = k
        · subst hjk; exact hjun
        · rw [getD_set_ne true hjk] at hun; exact hun
      have hnl : ¬ late j = true := fun h => by
        exact waitsN_ready hcl (getD_both (mem_ready.1 hr).1) hj _ (hl j (Array.getElem?_eq_some_iff.1 hoj).1 h)
      refine wpOp_mono (fun a' w' h3 => ⟨h3.2.1, ih (listed.setIfInBounds j true) a' w' (hcl.set hj) hfree' (ready_mono hr (Ne.symm hji)) h3.1 (h3.2.1.resolve_left hnl) ?_⟩) h2
      rw [Array.setIfInBounds_comm _ _ hji]
      exact h3.2.2
def lateB (md : Region.Mode) (ops : Array Oper) (late : Nat → Bool) (i : Nat) : Bool := (List.range ops.size).all fun j => !late j || waitsN md ops i ops.size j
def closedB (md : Region.Mode) (ops : Array Oper) (listed : Array Bool) : Bool := (List.range ops.size).all fun j => !listed.getD j false || ((ops[j]?).map (·.after.all fun e => !Region.binds md e || listed.getD e.on false)).getD true
theorem closedB_spec {listed : Array Bool} (h : closedB md ops listed = true) : Closed md ops listed := by
  intro j oj hj hl e he hb
  have h1 := List.all_eq_true.1 h j (List.mem_range.2 (Array.getElem?_eq_some_iff.1 hj).1)
  rw [hl, hj, Bool.not_true, Bool.false_or, Option.map_some, Option.getD_some] at h1
  have h2 := Array.all_eq_true'.1 h1 e he
  rw [hb, Bool.not_true, Bool.false_or] at h2
  exact h2
theorem wpAnyG_take {i : Nat} {oi : Oper} {v : Value} {fuel : Nat} {listed : Array Bool} {a : Act} {w : World} (hi : ops[i]? = some oi)
    (hs : Region.noSelect ops = true) (hf : Region.free md ops listed i = true) (hr : (Region.ready md ops listed).contains i = true) (hl : lateB md ops late i = true) (hc : closedB md ops listed = true)
    (hQ : ∀ c a w, Q (.panic c) (a.put oi.dst v) w → Q (.panic c) a w) (hw : Region.wanted oi (yielded ops a.tmps) = true) (hy : ∀ w', S w' → (execOp a.eval oi).run P w' = .ok (.value v) w') (hS : S w)
    (h : wpAnyG P md ops Q S late fuel (listed.setIfInBounds i true) (a.put oi.dst v) w) : wpAnyG P md ops Q S late (fuel + 1) listed a w := by
  refine wpAnyG_first hi (Region.noSelect_spec hs) (fun j hj hlt => ?_) hQ fuel listed a w (closedB_spec hc) (Region.free_spec hi hf) (by simpa using hr) (.inl ⟨hw, hy⟩) hS h
  have h1 := List.all_eq_true.1 hl j (List.mem_range.2 hj)
  rw [hlt, Bool.not_true, Bool.false_or] at h1
  exact h1
theorem wpG_op {i : Nat} {o : Oper} {a : Act} {w : World} {K : Act → World → Prop} (ho : ops[i]? = some o) (hw : Region.wanted o (yielded ops a.tmps) = true) (h : o.wp P a w K Q) : wpOp P ops Q i K a w := by
  unfold wpOp
  simp only [ho, hw, if_true]
  exact .inl h
theorem wpAnyG_one {i : Nat} {o : Oper} {fuel : Nat} {listed : Array Bool} {a : Act} {w : World} (hr : Region.ready md ops listed = [i]) (ho : ops[i]? = some o) (hw : Region.wanted o (yielded ops a.tmps) = true)
    (h : ∀ K : Act → World → Prop, (∀ a' w', S w' → wpAnyG P md ops Q S late fuel (listed.setIfInBounds i true) a' w' → K a' w') → o.wp P a w K Q) : wpAnyG P md ops Q S late (fuel + 1) listed a w := by
  refine ⟨fun h0 => (by rw [hr] at h0; cases h0), fun j hj => ?_⟩
  rw [hr, List.mem_singleton] at hj
  subst hj
  exact wpG_op ho hw (h _ (fun a' w' h1 h2 => ⟨.inr h1, h2⟩))
theorem wpAnyG_late {i : Nat} {o : Oper} {fuel : Nat} {listed : Array Bool} {a : Act} {w : World} (hr : Region.ready md ops listed = [i]) (ho : ops[i]? = some o) (hw : Region.wanted o (yielded ops a.tmps) = true) (hlt : late i = true)
    (h : ∀ K : Act → World → Prop, (∀ a' w', wpAnyG P md ops Q S late fuel (listed.setIfInBounds i true) a' w' → K a' w') → o.wp P a w K Q) : wpAnyG P md ops Q S late (fuel + 1) listed a w := by
  refine ⟨fun h0 => (by rw [hr] at h0; cases h0), fun j hj => ?_⟩
  rw [hr, List.mem_singleton] at hj
  subst hj
  exact wpG_op ho hw (h _ (fun a' w' h2 => ⟨.inl hlt, h2⟩))
theorem wpAnyG_two {i j : Nat} {o o2 : Oper} {fuel : Nat} {listed : Array Bool} {a : Act} {w : World} (hr : Region.ready md ops listed = [i, j]) (ho : ops[i]? = some o) (ho2 : ops[j]? = some o2) (hw : Region.wanted o (yielded ops a.tmps) = true) (hw2 : Region.wanted o2 (yielded ops a.tmps) = true)
    (h : ∀ K : Act → World → Prop, (∀ a' w', S w' → wpAnyG P md ops Q S late fuel (listed.setIfInBounds i true) a' w' → K a' w') → o.wp P a w K Q)
    (h2 : ∀ K : Act → World → Prop, (∀ a' w', S w' → wpAnyG P md ops Q S late fuel (listed.setIfInBounds j true) a' w' → K a' w') → o2.wp P a w K Q) : wpAnyG P md ops Q S late (fuel + 1) listed a w := by
  refine ⟨fun h0 => (by rw [hr] at h0; cases h0), fun q hq => ?_⟩
  rw [hr] at hq
  rcases List.mem_cons.1 hq with rfl | hq
  · exact wpG_op ho hw (h _ (fun a' w' h1 h2 => ⟨.inr h1, h2⟩))
  · rw [List.mem_singleton] at hq
    subst hq
    exact wpG_op ho2 hw2 (h2 _ (fun a' w' h1 h2 => ⟨.inr h1, h2⟩))
theorem wpAnyG_done {listed : Array Bool} {a : Act} {w : World} (hr : Region.ready md ops listed = []) (h : Q .normal a w) :
    ∀ fuel, wpAnyG P md ops Q S late fuel listed a w
  | 0 => ⟨hr, h⟩
  | _ + 1 => ⟨fun _ => h, by rw [hr]; simp⟩
theorem wp_region_G (S : World → Prop) (late : Nat → Bool) {id : Nat} {a : Act} {w : World} (hm : P.follows .mixedOrders = true)
    (h : wpAnyG P .any ops Q S late ops.size (Array.replicate ops.size false) a w.drew) : (Code.region id ops true).wp P Q a w :=
  wp_region_any hm (wpAny_of_G _ _ _ _ h)
end
theorem news1 {W : World} {b : Nat} {v : Value} {T : TypeId} (h : W.heap[b]? = some (.cells #[v] T (0, 0))) : ∀ j u, [v][j]? = some u → W.cell? ((⟨b, 0, none⟩ : Addr).add j) = some u := by
  intro j u hj
  rw [add_at, cellsAt h, Nat.zero_add, ← hj]
  exact Array.getElem?_toList.symm
end Go.Proofs.Ytenpgkkefielfaa
