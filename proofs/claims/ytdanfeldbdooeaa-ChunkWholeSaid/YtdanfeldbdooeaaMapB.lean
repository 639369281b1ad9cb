/-
  WORDS: a map[int]bool of the call's own, that holds true at some keys.
-/
import Derived.Test.YtdanfeldbdooeaaRowsK
import Derived.Maps.OwnOps
import Derived.Maps.OwnSet
set_option linter.unusedVariables false
set_option linter.unusedSimpArgs false
namespace Go.Proofs.Ytdanfeldbdooeaa
open Go.RowKit Go.Maps

theorem mapB_law : Keyed Try.prog 3 := int_keyed Try.underlying3
theorem mapB_zero (w : World) : (zeroValue 4).run Try.prog w = .ok (.bool false) w := by kernel_rfl
def keyI (a : Int) : Lit := .int .i64 a
def dB : DataW Unit := .lit (.bool true)
/-- Block b is a map[int]bool that holds true at the keys ks, and nothing else. -/
def MapB (w : World) (b : Nat) (ks : List Int) : Prop := w.ownsMap (H := Unit) Try.prog 3 (plainElem Try.prog 4) b ks.length (setOf dB (ks.map keyI))
theorem keyI_key {a : Int} (hw : (Lit.int .i64 a).wf = true) : keyOf Try.prog 3 (.int .i64 a) = some (keyI a) := keyOf_int_mk Try.underlying3 hw
theorem keyI_ne {a b : Int} (h : a ≠ b) : keyI a ≠ keyI b := fun e => by unfold keyI at e; injection e with _ e; exact h e
theorem elemP_inv {P : Program} {e : TypeId} (he : P.underlying e = some .bool) {v : Value} {x : Bool} {ps : List MemPlace} (h : plainElem (H := Unit) P e v = some (.lit (.bool x), ps)) : v = .bool x := by
  unfold plainElem at h
  rw [he] at h
  split at h
  · injection h with h; injection h with h1 h2; injection h1 with h1; injection h1 with h1; rw [h1]
  · rename_i h1; cases h1
  · rename_i h1; cases h1
  · cases h
theorem elemB_inv {v : Value} {x : Bool} {ps : List MemPlace} (h : plainElem (H := Unit) Try.prog 4 v = some (.lit (.bool x), ps)) : v = .bool x := elemP_inv Try.underlying4 h
theorem atKey_fold {a : Int} (hk : WideAt.IsKeyLit (keyI a)) (z : DataW Unit) : ∀ (ks : List Int) (m : DataW Unit), IsMap m → ((ks.map keyI).foldl (fun m x => m.put x dB) m).atKey (keyI a) z = if a ∈ ks then dB else m.atKey (keyI a) z
  | [], m, _ => by simp
  | k :: ks, m, hm => by
    rw [List.map_cons, List.foldl_cons, atKey_fold hk z ks _ (hm.put _ _)]
    by_cases h1 : a ∈ ks
    · rw [if_pos h1, if_pos (List.mem_cons_of_mem _ h1)]
    · rw [if_neg h1]
      by_cases h2 : a = k
      · subst h2
        rw [atKey_put_same hm hk, if_pos List.mem_cons_self]
      · rw [atKey_put_other (keyI_ne h2), if_neg (by simp [h1, h2])]
theorem atKey_set {a : Int} (hk : WideAt.IsKeyLit (keyI a)) (z : DataW Unit) (ks : List Int) : (setOf dB (ks.map keyI)).atKey (keyI a) z = if a ∈ ks then dB else z := by
  unfold setOf
  rw [atKey_fold hk z ks _ isMap_empty]
  rfl
theorem MapB.made (w : World) : MapB (w.alloc (.map #[] 0)) w.heap.size [] := World.ownsMap_made w Try.prog 3 (plainElem Try.prog 4)
theorem MapB.lt {w : World} {b : Nat} {ks : List Int} (h : MapB w b ks) : b < w.heap.size := World.ownsMap.lt h
theorem MapB.below {w w' : World} {b : Nat} {ks : List Int} (h : MapB w b ks) (hb : Below w.heap.size w w') : MapB w' b ks :=
  World.ownsMap.kept (row := none) h ⟨hb.os, hb.tape, hb.output, hb.size, fun k hk _ => hb.block k hk⟩ (by simp)
theorem MapB.set {w : World} {b : Nat} {ks : List Int} (h : MapB w b ks) {p : Addr} (hp : b ≠ p.block) (u : Value) : MapB (w.setCell p u) b ks := World.ownsMap.setCell h hp u
theorem MapB.isMap {w : World} {b : Nat} {ks : List Int} (h : MapB w b ks) : ∃ es c, w.heap[b]? = some (.map es c) := by
  obtain ⟨es, c, hb, -⟩ := h
  exact ⟨es, c, hb⟩
theorem MapB.look {w : World} {b : Nat} {ks : List Int} (h : MapB w b ks) {a : Int} (hw : (Lit.int .i64 a).wf = true) : (Instr.lookup 54 (.map (some b)) (.int .i64 a) false).run Try.prog w = .ok (.bool (decide (a ∈ ks))) w := by
  obtain ⟨v, ps, hrun, hv⟩ := World.ownsMap.lookup h mapB_law Try.underlying54 (mapB_zero w) (plainElem_bool Try.underlying4 false) (keyI_key hw)
  rw [atKey_set (mapB_law.key (keyI_key hw))] at hv
  by_cases h1 : a ∈ ks
  · rw [if_pos h1] at hv
    rw [hrun, elemB_inv hv, decide_eq_true h1]
  · rw [if_neg h1] at hv
    rw [hrun, elemB_inv hv, decide_eq_false h1]
def sizeK (ks : List Int) : Nat := Maps.size (setOf dB (ks.map keyI))
theorem MapB.len {w : World} {b : Nat} {ks : List Int} (h : MapB w b ks) (ty : TypeId) : (Builtin.len_ #[54] ty #[.map (some b)]).run Try.prog w = .ok (.int .i64 (sizeK ks)) w :=
  World.ownsMap.len h Try.underlying54 ty
theorem sizeK_nil : sizeK [] = 0 := rfl
theorem sizeK_snoc (ks : List Int) (a : Int) (hk : ∀ x ∈ ks ++ [a], (Lit.int .i64 x).wf = true) : sizeK (ks ++ [a]) = if a ∈ ks then sizeK ks else sizeK ks + 1 := by
  have hkk : ∀ x ∈ ks.map keyI, WideAt.IsKeyLit x := by
    intro x hx
    obtain ⟨y, hy, rfl⟩ := List.mem_map.1 hx
    exact mapB_law.key (keyI_key (hk y (by simp [hy])))
  have ha : WideAt.IsKeyLit (keyI a) := mapB_law.key (keyI_key (hk a (by simp)))
  unfold sizeK
  rw [List.map_append, List.map_cons, List.map_nil, setOf_snoc, size_put (tidy_setOf _ _ hkk), has_setOf _ _ _ hkk]
  have e : ((ks.map keyI).any fun x => x.sameKey (keyI a)) = decide (a ∈ ks) := by
    rw [Bool.eq_iff_iff, List.any_eq_true, decide_eq_true_eq]
    constructor
    · rintro ⟨x, hx, hs⟩
      obtain ⟨y, hy, rfl⟩ := List.mem_map.1 hx
      by_cases h : y = a
      · rw [← h]; exact hy
      · rw [sameKey_ne (keyI_ne h)] at hs; cases hs
    · intro h
      exact ⟨keyI a, List.mem_map.2 ⟨a, h, rfl⟩, WideAt.sameKey_self ha⟩
  rw [e]
  by_cases h : a ∈ ks
  · simp [h]
  · simp [h]
/-- A store of true at a key. -/
theorem wpList_mapB {w : World} {ops : Array Oper} {rest : List Oper} {o : Oper} {a : Act} {Q : Exit → Act → World → Prop}
    (hg : o.guard = none) (m x v : Operand) (hop : o.op = Op.mapUpdate 54 m x v) (b : Nat) (ks : List Int) (hm : a.eval m = .map (some b)) (h : MapB w b ks) (hn : ks.length < maxLen) (key : Int) (hx : a.eval x = .int .i64 key) (hv : a.eval v = .bool true) (hw : (Lit.int .i64 key).wf = true)
    (hK : ∀ w', MapB w' b (ks ++ [key]) → w.grownBy w' (some b) → wpList Try.prog ops Q rest (a.put o.dst undef) w') : wpList Try.prog ops Q (o :: rest) a w := by
  refine wpList_mapUpdate_own w hg m x v _ hop 3 4 mapB_law Try.underlying54 (plainElem Try.prog 4) b _ _ hm h hn _ _ _ hx hv (keyI_key hw) dB [] (plainElem_bool Try.underlying4 true) ?_
  intro w' h1 h2
  refine hK w' ?_ h2
  unfold MapB
  rw [List.map_append, List.map_cons, List.map_nil, setOf_snoc, List.length_append]
  exact h1
/-- A row stays while a map is written. -/
theorem Row.keepM {α : Type} {enc : α → List Value} {k : Nat} {W W' : World} {v : Value} {l : List α} {b : Nat} {ks : List Int} (h : Row enc k W v l) (hm : MapB W b ks) (hg : W.grownBy W' (some b)) : Row enc k W' v l := by
  obtain ⟨es, cl, hmb⟩ := hm.isMap
  obtain ⟨A, c, e, hc, h⟩ := h
  refine ⟨A, c, e, hc, fun hl => ?_⟩
  obtain ⟨bb, o, ha, hb, hx⟩ := h hl
  refine ⟨bb, o, ha, Nat.lt_of_lt_of_le hb hg.size, fun i x j u h1 h2 => ?_⟩
  have h3 := hx i x j u h1 h2
  have hne : bb ≠ b := by
    rintro rfl
    simp [World.cell?, hmb] at h3
  exact (World.cell?_of_block (hg.block bb hb (by simpa using hne))).trans h3
theorem heap_keepM {W W' : World} {b g : Nat} {o : Obj} {ks : List Int} (hg : W.heap[g]? = some o) (hm : MapB W b ks) (ho : ∀ es c, o ≠ .map es c) (hgr : W.grownBy W' (some b)) : W'.heap[g]? = some o := by
  obtain ⟨es, cl, hmb⟩ := hm.isMap
  have hne : g ≠ b := by
    rintro rfl
    rw [hg] at hmb
    injection hmb with e
    exact ho _ _ e
  exact (hgr.block g (blk_lt hg) (by simpa using hne)).trans hg
end Go.Proofs.Ytdanfeldbdooeaa
