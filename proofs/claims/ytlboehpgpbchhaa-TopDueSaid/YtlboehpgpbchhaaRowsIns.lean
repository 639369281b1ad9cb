/-
  WORDS: copy, clear and an append of zeros at rows of several cells an element; what Insert and Delete make of a row.
-/
import Derived.Test.YtlboehpgpbchhaaRowsPush
import Derived.Lib.AppendZerosOnto
import Derived.Lib.Overlaps
import Derived.Laws.CopyRow
import Derived.Laws.Externs
set_option linter.unusedVariables false
set_option linter.unusedSimpArgs false
namespace Go.Proofs.Ytlboehpgpbchhaa
open Go.RowKit

theorem run_copy_rowK {P : Program} (w : World) (dT sT ty elem : TypeId) (i : TypeInfo) (g o dLen dCap : Nat) (a : Addr) (sLen sCap : Nat) (cur : Array Value) (t : TypeId) (cs : List Value) (m : Nat)
    (hu : P.underlying dT = some (.slice elem)) (hi : P.info? elem = some i) (hm : Nat.min sLen dLen = m) (hl : cs.length = m * i.size)
    (hg : w.heap[g]? = some (.cells cur t (0, 0)))
    (hsrc : ∀ j v, cs[j]? = some v → w.cell? (a.add j) = some v) (hfit : o + cs.length ≤ cur.size) (h1 : ∀ v ∈ cs, v.oneCell' = true) :
    (Builtin.copy_ #[dT, sT] ty #[.slice (some ⟨g, o, none⟩) dLen dCap, .slice (some a) sLen sCap]).run P w =
      .ok (goInt m) (w.setRow g (cur.toList.take o ++ cs ++ cur.toList.drop (o + cs.length)).toArray) := by
  have hf := run_firstCells_some (P := P) w i.size m a sLen sCap cs hl hsrc
  have hst := run_storeCells_at P g o t cs 0 cur w hg (by simpa using hfit) h1
  simp only [Nat.add_zero] at hst
  have hm' : min sLen dLen = m := hm
  simp [Builtin.copy_, run_underlying hu, Builtin.lenOf, sizeOf, typeInfo, hi, hm', hf, hst]
theorem wp_copy_run {P : Program} (w : World) {o : Oper} {a : Act} {K : Act → World → Prop} {Q : Exit → Act → World → Prop} (d s : Operand) (t t' : TypeId)
    (ho : o.op = .call { callee := .builtin .copy, args := #[d, s], argTypes := #[t, t'] }) (v u : Value) (hd : a.eval d = v) (hs : a.eval s = u) {v' : Value} {w' : World}
    (hr : (Builtin.copy_ #[t, t'] o.type #[v, u]).run P w = .ok v' w') (h : K (a.put o.dst v') w') : o.wp P a w K Q := by
  unfold Oper.wp execOp
  simp only [ho, resolve, invoke, builtin, Sem.run_bind, Sem.run_pure, Result.andThen_ok, List.map_toArray, List.map_cons, List.map_nil, hd, hs, hr]
  exact h
theorem wpList_copy_run {P : Program} (w : World) {ops : Array Oper} {rest : List Oper} {o : Oper} {a : Act} {Q : Exit → Act → World → Prop} (hgd : o.guard = none) (d s : Operand) (t t' : TypeId)
    (ho : o.op = .call { callee := .builtin .copy, args := #[d, s], argTypes := #[t, t'] }) (v u : Value) (hd : a.eval d = v) (hs : a.eval s = u) {v' : Value} {w' : World}
    (hr : (Builtin.copy_ #[t, t'] o.type #[v, u]).run P w = .ok v' w') (h : wpList P ops Q rest (a.put o.dst v') w') : wpList P ops Q (o :: rest) a w :=
  wpList_plain hgd fun _ hK => wp_copy_run w d s t t' ho v u hd hs hr (hK _ _ h)
theorem step_copy_run {P : Program} {ops : Array Oper} {o : Oper} {a : Act} {w : World} {K : Act → World → Prop} {Q : Exit → Act → World → Prop} {E : Prop}
    (hg : o.guard = none) (d x : Operand) (dT sT : TypeId) (hop : o.op = Op.call { callee := Callee.builtin Builtin.copy, args := #[d, x], argTypes := #[dT, sT] })
    (v u : Value) (hd : a.eval d = v) (hx : a.eval x = u) {v' : Value} {w' : World} (hr : (Builtin.copy_ #[dT, sT] o.type #[v, u]).run P w = .ok v' w') (hK : K (a.put o.dst v') w') :
    if Region.wanted o (yielded ops a.tmps) = true then Oper.wp P o a w K Q else E := by
  rw [if_pos (by simp [Region.wanted, hg])]
  exact wp_copy_run w d x dT sT hop v u hd hx hr hK
/-- clear of a part of a row. -/
theorem run_clear_rowK {P : Program} (w : World) (t ty elem : TypeId) (i : TypeInfo) (z : Value) (g o n c : Nat) (cur : Array Value) (T : TypeId)
    (hu : P.underlying t = some (.slice elem)) (hi : P.info? elem = some i) (hz : i.zero = some z) (hn : 0 < n)
    (hg : w.heap[g]? = some (.cells cur T (0, 0))) (hfit : o + (Builtin.zeroCells z.cells n).toList.length ≤ cur.size) (h1 : ∀ v ∈ (Builtin.zeroCells z.cells n).toList, v.oneCell' = true) :
    (Builtin.clear_ #[t] ty #[.slice (some ⟨g, o, none⟩) n c]).run P w =
      .ok (.tuple #[]) (w.setRow g (cur.toList.take o ++ (Builtin.zeroCells z.cells n).toList ++ cur.toList.drop (o + (Builtin.zeroCells z.cells n).toList.length)).toArray) := by
  have hst := run_storeCells_at P g o T _ 0 cur w hg (by simpa using hfit) h1
  simp only [Nat.add_zero] at hst
  cases n with
  | zero => omega
  | succ n => simp [Builtin.clear_, run_underlying hu, zeroValue, typeInfo, hi, hz, hst]
theorem wp_clear_run {P : Program} (w : World) {o : Oper} {a : Act} {K : Act → World → Prop} {Q : Exit → Act → World → Prop} (d : Operand) (t : TypeId)
    (ho : o.op = .call { callee := .builtin .clear, args := #[d], argTypes := #[t] }) (v : Value) (hd : a.eval d = v) {v' : Value} {w' : World}
    (hr : (Builtin.clear_ #[t] o.type #[v]).run P w = .ok v' w') (h : K (a.put o.dst v') w') : o.wp P a w K Q := by
  unfold Oper.wp execOp
  simp only [ho, resolve, invoke, builtin, Sem.run_bind, Sem.run_pure, Result.andThen_ok, List.map_toArray, List.map_cons, List.map_nil, hd, hr]
  exact h
theorem wpList_clear_run {P : Program} (w : World) {ops : Array Oper} {rest : List Oper} {o : Oper} {a : Act} {Q : Exit → Act → World → Prop} (hgd : o.guard = none) (d : Operand) (t : TypeId)
    (ho : o.op = .call { callee := .builtin .clear, args := #[d], argTypes := #[t] }) (v : Value) (hd : a.eval d = v) {v' : Value} {w' : World}
    (hr : (Builtin.clear_ #[t] o.type #[v]).run P w = .ok v' w') (h : wpList P ops Q rest (a.put o.dst v') w') : wpList P ops Q (o :: rest) a w :=
  wpList_plain hgd fun _ hK => wp_clear_run w d t ho v hd hr (hK _ _ h)
theorem step_append_run {P : Program} {ops : Array Oper} {o : Oper} {a : Act} {w : World} {K : Act → World → Prop} {Q : Exit → Act → World → Prop} {E : Prop}
    (hg : o.guard = none) (d x : Operand) (dT sT : TypeId) (hop : o.op = Op.call { callee := Callee.builtin Builtin.append, args := #[d, x], argTypes := #[dT, sT] })
    (v u : Value) (hd : a.eval d = v) (hx : a.eval x = u) {v' : Value} {w' : World} (hr : (Builtin.append_ #[dT, sT] o.type #[v, u]).run P w = .ok v' w') (hK : K (a.put o.dst v') w') :
    if Region.wanted o (yielded ops a.tmps) = true then Oper.wp P o a w K Q else E := by
  rw [if_pos (by simp [Region.wanted, hg])]
  unfold Oper.wp execOp
  simp only [hop, resolve, invoke, builtin, Sem.run_bind, Sem.run_pure, Result.andThen_ok, List.map_toArray, List.map_cons, List.map_nil, hd, hx, hr]
  exact hK
theorem splice_len {α : Type} (L : List α) (o : Nat) (cs : List α) (h : o + cs.length ≤ L.length) : (L.take o ++ cs ++ L.drop (o + cs.length)).length = L.length := by
  simp only [List.length_append, List.length_take, List.length_drop]
  omega
theorem splice_get {α : Type} (L : List α) (o : Nat) (cs : List α) (h : o + cs.length ≤ L.length) (j : Nat) : (L.take o ++ cs ++ L.drop (o + cs.length))[j]? = if j < o then L[j]? else if j < o + cs.length then cs[j - o]? else L[j]? := by
  have l1 : (L.take o).length = o := by simp; omega
  by_cases h1 : j < o
  · rw [if_pos h1, List.append_assoc, List.getElem?_append_left (by omega), List.getElem?_take, if_pos h1]
  · rw [if_neg h1]
    by_cases h2 : j < o + cs.length
    · rw [if_pos h2, List.getElem?_append_left (by rw [List.length_append]; omega), List.getElem?_append_right (by omega), l1]
    · rw [if_neg h2, List.getElem?_append_right (by rw [List.length_append]; omega), List.length_append, l1, List.getElem?_drop]
      congr 1
      omega
/-- Insert, in place: what stood from a on is copied k further, then the new cells are laid at a. -/
theorem ins_shift_list (L xc : List Value) (a n k : Nat) (ha : a ≤ n) (hx : xc.length = k) (hL : n + k ≤ L.length) :
    ((L.take (a + k) ++ (L.take n).drop a ++ L.drop (a + k + ((L.take n).drop a).length)).take a ++ xc ++ (L.take (a + k) ++ (L.take n).drop a ++ L.drop (a + k + ((L.take n).drop a).length)).drop (a + xc.length)).take (n + k) = (L.take n).take a ++ (xc ++ (L.take n).drop a) := by
  have lc : ((L.take n).drop a).length = n - a := by simp; omega
  have hf : a + k + ((L.take n).drop a).length ≤ L.length := by omega
  have hL1 := splice_len L (a + k) ((L.take n).drop a) hf
  apply List.ext_getElem?
  intro j
  rw [List.getElem?_take]
  by_cases hj : j < n + k
  · rw [if_pos hj, splice_get _ a xc (by rw [hL1]; omega), splice_get L (a + k) _ hf, lc]
    by_cases h1 : j < a
    · rw [if_pos h1, if_pos (by omega), List.getElem?_append_left (by simp; omega), List.getElem?_take, if_pos h1, List.getElem?_take, if_pos (by omega)]
    · rw [if_neg h1, List.getElem?_append_right (by simp; omega)]
      have la : ((L.take n).take a).length = a := by simp; omega
      rw [la]
      by_cases h2 : j < a + xc.length
      · rw [if_pos h2, List.getElem?_append_left (by omega)]
      · rw [if_neg h2, if_neg (by omega), if_pos (by omega), List.getElem?_append_right (by omega)]
        congr 1
        omega
  · rw [if_neg hj, List.getElem?_eq_none]
    simp only [List.length_append, List.length_take, List.length_drop]
    omega
/-- Insert, into a new row. -/
theorem ins_grow_list (X xc Z : List Value) (a k n : Nat) (ha : a ≤ n) (hX : X.length = n) (hx : xc.length = k) (hZ : n + k ≤ a + Z.length) :
    (((X.take a ++ Z).take a ++ xc ++ (X.take a ++ Z).drop (a + xc.length)).take (a + k) ++ X.drop a ++ ((X.take a ++ Z).take a ++ xc ++ (X.take a ++ Z).drop (a + xc.length)).drop (a + k + (X.drop a).length)).take (n + k) = X.take a ++ (xc ++ X.drop a) := by
  have la : (X.take a).length = a := by simp; omega
  have lz : (X.take a ++ Z).length = a + Z.length := by rw [List.length_append, la]
  have ld : (X.drop a).length = n - a := by simp; omega
  have hf : a + xc.length ≤ (X.take a ++ Z).length := by omega
  have hL1 := splice_len (X.take a ++ Z) a xc hf
  apply List.ext_getElem?
  intro j
  rw [List.getElem?_take]
  by_cases hj : j < n + k
  · rw [if_pos hj, splice_get _ (a + k) _ (by rw [hL1]; omega), splice_get _ a xc hf, ld]
    by_cases h1 : j < a
    · rw [if_pos (by omega), if_pos h1, List.getElem?_append_left (by omega), List.getElem?_append_left (by omega)]
    · rw [List.getElem?_append_right (l₁ := X.take a) (l₂ := xc ++ X.drop a) (by omega), la]
      by_cases h2 : j < a + k
      · rw [if_pos h2, if_neg h1, if_pos (by omega), List.getElem?_append_left (by omega)]
      · rw [if_neg h2, if_pos (by omega), List.getElem?_append_right (by omega)]
        congr 1
        omega
  · rw [if_neg hj, List.getElem?_eq_none]
    simp only [List.length_append, List.length_take, List.length_drop]
    omega
/-- Delete: what stood from b on is laid at a. -/
theorem del_list (L : List Value) (zs : List Value) (a b n k : Nat) (hb : b = a + k) (hbn : b ≤ n) (hn : n ≤ L.length) (hz : zs.length = k) :
    ((L.take a ++ (L.take n).drop b ++ L.drop (a + ((L.take n).drop b).length)).take (n - k) ++ zs ++ (L.take a ++ (L.take n).drop b ++ L.drop (a + ((L.take n).drop b).length)).drop (n - k + zs.length)).take (n - k) = (L.take n).take a ++ (L.take n).drop b := by
  have lb : ((L.take n).drop b).length = n - b := by simp; omega
  have hf : a + ((L.take n).drop b).length ≤ L.length := by omega
  have hL1 := splice_len L a ((L.take n).drop b) hf
  apply List.ext_getElem?
  intro j
  rw [List.getElem?_take]
  by_cases hj : j < n - k
  · rw [if_pos hj, splice_get _ (n - k) zs (by rw [hL1]; omega), if_pos hj, splice_get L a _ hf, lb]
    have la : ((L.take n).take a).length = a := by simp; omega
    by_cases h1 : j < a
    · rw [if_pos h1, List.getElem?_append_left (by omega), List.getElem?_take, if_pos h1, List.getElem?_take, if_pos (by omega)]
    · rw [if_neg h1, if_pos (by omega), List.getElem?_append_right (by omega), la]
  · rw [if_neg hj, List.getElem?_eq_none]
    simp only [List.length_append, List.length_take, List.length_drop]
    omega
theorem grown_setRow (w : World) (g : Nat) (cs : Array Value) : w.grownBy (w.setRow g cs) (some g) :=
  ⟨rfl, rfl, rfl, by simp [World.setRow], fun k _ hk => setRow_other w g k cs (fun e => hk (by rw [e]))⟩
theorem grown_trans {a b c : World} {o : Option Nat} (h : a.grownBy b o) (k : b.grownBy c o) : a.grownBy c o :=
  ⟨k.os.trans h.os, k.tape.trans h.tape, k.output.trans h.output, Nat.le_trans h.size k.size, fun q hq hne => (k.block q (Nat.lt_of_lt_of_le hq h.size) hne).trans (h.block q hq hne)⟩
end Go.Proofs.Ytlboehpgpbchhaa
