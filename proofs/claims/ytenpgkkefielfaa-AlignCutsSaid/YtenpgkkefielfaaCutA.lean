/-
  WORDS of the law AlignCuts: rows of rows of one's own; where an append lays its row.
-/
import Derived.Test.YtenpgkkefielfaaAlignW13
import Derived.Maps.AppendAt
set_option linter.unusedVariables false
set_option linter.unusedSimpArgs false
namespace Go.Proofs.Ytenpgkkefielfaa
open Go.RowKit

theorem wp_append_at {P : Program} {w : World} {o : Oper} {a : Act} {K : Act → World → Prop} {Q : Exit → Act → World → Prop} (s x : Operand) (t : TypeId)
    (ho : o.op = .call { callee := .builtin .append, args := #[s, x], argTypes := #[t, t] })
    (base : Nat) (e : TypeId) (i : TypeInfo) (z : Value) (size bytes : Nat) (ht : P.underlying t = some (.slice e)) (hi : P.info? e = some i) (hz : i.zero = some z)
    (hsize : i.size = size) (hby : i.bytes = bytes) (hzs : z.cells.size = size) (hsz : 0 < size)
    (v : Value) (n : Nat) (xs : List Value) (hs : a.eval s = v) (hown : w.ownsRow base e size v n xs)
    (ad : Addr) (m c : Nat) (news : List Value) (hx : a.eval x = .slice (some ad) m c) (hl : news.length = m * size) (hnews : ∀ j u, news[j]? = some u → w.cell? (ad.add j) = some u) (h1 : ∀ u ∈ news, u.oneCell' = true)
    (h63 : n + m ≤ maxLen) (hbytes : (n + m) * bytes ≤ 140737488355328) (hbase : base ≤ w.heap.size)
    (h : ∀ v' w', w'.ownsRow base e size v' (n + m) (xs ++ news) → w.grownBy w' v.ownBlock → (v'.ownBlock = v.ownBlock ∨ v'.ownBlock = some w.heap.size) → K (a.put o.dst v') w') : o.wp P a w K Q := by
  obtain ⟨v', w', hr, h2, h3, -, h4⟩ := run_append_own_at (P := P) (w := w) base t o.type e i z size bytes ht hi hz hsize hby hzs hsz v n xs hown ad m c news hl hnews h1 h63 hbytes hbase
  unfold Oper.wp execOp
  simp only [ho, resolve, invoke, builtin, Sem.run_bind, Sem.run_pure, Result.andThen_ok, List.map_toArray, List.map_cons, List.map_nil, hs, hx, hr]
  exact h v' w' h2 h3 h4
theorem step_own_at {P : Program} {ops : Array Oper} {o : Oper} {a : Act} {w : World} {K : Act → World → Prop} {Q : Exit → Act → World → Prop} {E : Prop} (hgd : o.guard = none) (s x : Operand) (t : TypeId)
    (ho : o.op = .call { callee := .builtin .append, args := #[s, x], argTypes := #[t, t] })
    (base : Nat) (e : TypeId) (i : TypeInfo) (z : Value) (size bytes : Nat) (ht : P.underlying t = some (.slice e)) (hi : P.info? e = some i) (hz : i.zero = some z)
    (hsize : i.size = size) (hby : i.bytes = bytes) (hzs : z.cells.size = size) (hsz : 0 < size)
    (v : Value) (n : Nat) (xs : List Value) (hs : a.eval s = v) (hown : w.ownsRow base e size v n xs)
    (ad : Addr) (m c : Nat) (news : List Value) (hx : a.eval x = .slice (some ad) m c) (hl : news.length = m * size) (hnews : ∀ j u, news[j]? = some u → w.cell? (ad.add j) = some u) (h1 : ∀ u ∈ news, u.oneCell' = true)
    (h63 : n + m ≤ maxLen) (hbytes : (n + m) * bytes ≤ 140737488355328) (hbase : base ≤ w.heap.size)
    (h : ∀ v' w', w'.ownsRow base e size v' (n + m) (xs ++ news) → w.grownBy w' v.ownBlock → (v'.ownBlock = v.ownBlock ∨ v'.ownBlock = some w.heap.size) → K (a.put o.dst v') w') :
    if Region.wanted o (yielded ops a.tmps) = true then Oper.wp P o a w K Q else E := by
  rw [if_pos (by simp [Region.wanted, hgd])]
  exact wp_append_at s x t ho base e i z size bytes ht hi hz hsize hby hzs hsz v n xs hs hown ad m c news hx hl hnews h1 h63 hbytes hbase h
theorem rs_news (W : World) (cs : Array Value) (T : TypeId) (l : List Value) (h : cs.toList = l) : ∀ j u, l[j]? = some u → (W.alloc (.cells cs T)).cell? ((⟨W.heap.size, 0, none⟩ : Addr).add j) = some u := by
  intro j u hj
  rw [add_at, cellsAt (heap_at W _ _ rfl), Nat.zero_add, ← hj, ← h]
  exact Array.getElem?_toList.symm
/-- A row of rows of items, all of one's own, no two in one block. -/
structure RrAt (bs : Nat) (W : World) (vo : Value) (hs : List Hl) : Prop where
  own : W.ownsRow bs 32 1 vo hs.length (hs.flatMap Hl.cs)
  rows : ∀ h ∈ hs, W.ownsRow bs 43 11 h.row h.l.length (h.l.flatMap It.cs)
  dis : ∀ (i j : Nat) (x y : Hl), i ≠ j → hs[i]? = some x → hs[j]? = some y → x.row.ownBlock = none ∨ x.row.ownBlock ≠ y.row.ownBlock
theorem RrAt.keep {bs : Nat} {W W' : World} {vo : Value} {hs : List Hl} (h : RrAt bs W vo hs) (hk : ∀ k, bs ≤ k → k < W.heap.size → W'.heap[k]? = W.heap[k]?) : RrAt bs W' vo hs :=
  ⟨own_keep h.own (fun j hj => hk j (h.own.lt j hj).1 (h.own.lt j hj).2), fun x hx => own_keep (h.rows x hx) (fun j hj => hk j ((h.rows x hx).lt j hj).1 ((h.rows x hx).lt j hj).2), h.dis⟩
theorem RrAt.below {bs : Nat} {W W' : World} {vo : Value} {hs : List Hl} (h : RrAt bs W vo hs) (hb : Below W.heap.size W W') : RrAt bs W' vo hs := h.keep (fun k _ hk => hb.block k hk)
theorem RrAt.nil (bs : Nat) (W : World) : RrAt bs W (.slice none 0 0) [] := ⟨World.ownsRow_nil _ _ _ _, by simp, by simp⟩
theorem RrAt.one {bs : Nat} {W : World} (hbs : bs ≤ W.heap.size) : RrAt bs (W.alloc (.cells #[.slice none 0 0] 32)) (.slice (some ⟨W.heap.size, 0, none⟩) 1 1) [hZ] := by
  refine ⟨⟨rfl, .inr ⟨W.heap.size, 1, #[.slice none 0 0], rfl, hbs, heap_alloc_new _ _, Nat.le_refl _, by decide, rfl, rfl⟩⟩, fun h hh => ?_, fun i j x y hij hx hy => ?_⟩
  · rw [List.mem_singleton.1 hh]
    exact World.ownsRow_nil _ _ _ _
  · have h1 := (List.getElem?_eq_some_iff.1 hx).1
    have h2 := (List.getElem?_eq_some_iff.1 hy).1
    simp at h1 h2
    omega
theorem RrAt.pushNil {bs : Nat} {W W' : World} {vo v' : Value} {hs : List Hl} (h : RrAt bs W vo hs) (ho : W'.ownsRow bs 32 1 v' (hs.length + 1) (hs.flatMap Hl.cs ++ [.slice none 0 0])) (hk : ∀ k, k < W.heap.size → vo.ownBlock ≠ some k → W'.heap[k]? = W.heap[k]?) : RrAt bs W' v' (hs ++ [hZ]) := by
  refine ⟨by rw [List.length_append, List.flatMap_append]; exact ho, fun x hx => ?_, fun i j x y hij hx hy => ?_⟩
  · rcases List.mem_append.1 hx with h1 | h1
    · refine own_keep (h.rows x h1) (fun j hj => hk j ((h.rows x h1).lt j hj).2 (fun e => ?_))
      rcases own_ne (h.rows x h1) h.own (by decide) with h2 | h2
      · rw [h2] at hj
        cases hj
      · exact h2 (hj.trans e.symm)
    · rw [List.mem_singleton.1 h1]
      exact World.ownsRow_nil _ _ _ _
  · by_cases h1 : i < hs.length
    · rw [List.getElem?_append_left h1] at hx
      by_cases h2 : j < hs.length
      · rw [List.getElem?_append_left h2] at hy
        exact h.dis i j x y hij hx hy
      · rw [List.getElem?_append_right (by omega)] at hy
        obtain ⟨hl, hy⟩ := List.getElem?_eq_some_iff.1 hy
        have hy : hZ = y := by simpa using hy
        rw [← hy]
        cases hb : x.row.ownBlock with
        | none => exact .inl rfl
        | some k => exact .inr (by simp [hZ, Value.ownBlock])
    · rw [List.getElem?_append_right (by omega)] at hx
      obtain ⟨hl, hx⟩ := List.getElem?_eq_some_iff.1 hx
      have hx : hZ = x := by simpa using hx
      rw [← hx]
      exact .inl rfl
theorem RrAt.put {bs : Nat} {W W5 : World} {g c : Nat} {hs : List Hl} (h : RrAt bs W (.slice (some ⟨g, 0, none⟩) hs.length c) hs) {k : Nat} {y : Hl} (hy : hs[k]? = some y) {x : It} {v5 : Value}
    (ho : W5.ownsRow bs 43 11 v5 (y.l.length + 1) (y.l.flatMap It.cs ++ x.cs)) (hg : W.grownBy W5 y.row.ownBlock) (hloc : v5.ownBlock = y.row.ownBlock ∨ v5.ownBlock = some W.heap.size) :
    RrAt bs (W5.setCell ⟨g, k, none⟩ v5) (.slice (some ⟨g, 0, none⟩) hs.length c) (hs.set k ⟨v5, y.l ++ [x]⟩) := by
  have hym := List.mem_of_getElem? hy
  have hkl := (List.getElem?_eq_some_iff.1 hy).1
  have hgy : some g ≠ y.row.ownBlock := by
    rcases own_ne h.own (h.rows y hym) (by decide) with h2 | h2
    · cases h2
    · exact h2
  have o5 : W5.ownsRow bs 32 1 (.slice (some ⟨g, 0, none⟩) hs.length c) hs.length (hs.flatMap Hl.cs) := own_keep h.own (fun j hj => hg.block j (h.own.lt j hj).2 (fun e => hgy (by rw [← e]; exact hj)))
  have hv5g : v5.ownBlock = none ∨ v5.ownBlock ≠ some g := by
    rcases own_ne ho o5 (by decide) with h2 | h2
    · exact .inl h2
    · exact .inr h2
  refine ⟨by rw [List.length_set]; exact own_held o5 hkl ⟨v5, y.l ++ [x]⟩, fun z hz => ?_, fun i j u v hij hu hv => ?_⟩
  · obtain ⟨i, hi, hiz⟩ := List.getElem_of_mem hz
    rw [List.length_set] at hi
    by_cases e : k = i
    · subst e
      rw [List.getElem_set_self] at hiz
      subst hiz
      have := own_away ho hv5g k v5
      rw [List.length_append, List.flatMap_append]
      simpa using this
    · rw [List.getElem_set_ne e] at hiz
      have hzm : z ∈ hs := by rw [← hiz]; exact List.getElem_mem hi
      have hzi : hs[i]? = some z := by rw [List.getElem?_eq_getElem hi, hiz]
      have h5 : W5.ownsRow bs 43 11 z.row z.l.length (z.l.flatMap It.cs) := own_keep (h.rows z hzm) (fun j hj => hg.block j ((h.rows z hzm).lt j hj).2 (fun e2 => by
        rcases h.dis i k z y (fun e3 => e e3.symm) hzi hy with h2 | h2
        · rw [h2] at hj
          cases hj
        · exact h2 (by rw [hj, e2])))
      exact own_away h5 (by
        rcases own_ne h5 o5 (by decide) with h2 | h2
        · exact .inl h2
        · exact .inr h2) k v5
  · have hlt : ∀ (z : Hl), z ∈ hs → z.row.ownBlock ≠ some W.heap.size := fun z hz e => by have := ((h.rows z hz).lt _ e).2; omega
    by_cases ei : k = i
    · subst ei
      rw [List.getElem?_set_self hkl] at hu
      injection hu with hu
      subst hu
      rw [List.getElem?_set_ne hij] at hv
      rcases hloc with h2 | h2
      · show v5.ownBlock = none ∨ v5.ownBlock ≠ _
        rw [h2]
        exact h.dis k j y v hij hy hv
      · right
        show v5.ownBlock ≠ _
        rw [h2]
        exact fun e => hlt v (List.mem_of_getElem? hv) e.symm
    · rw [List.getElem?_set_ne ei] at hu
      by_cases ej : k = j
      · subst ej
        rw [List.getElem?_set_self hkl] at hv
        injection hv with hv
        subst hv
        rcases hloc with h2 | h2
        · show _ ∨ _ ≠ v5.ownBlock
          rw [h2]
          exact h.dis i k u y hij hu hy
        · right
          show _ ≠ v5.ownBlock
          rw [h2]
          exact hlt u (List.mem_of_getElem? hu)
      · rw [List.getElem?_set_ne ej] at hv
        exact h.dis i j u v hij hu hv
end Go.Proofs.Ytenpgkkefielfaa
