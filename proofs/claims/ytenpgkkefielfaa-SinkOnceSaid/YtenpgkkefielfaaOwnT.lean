/-
  WORDS: a row of one's own that grows at its end and loses elements at its head (a queue in a slice).
-/
import Derived.Test.YtenpgkkefielfaaRowsPush
import Derived.ArgAppend
set_option linter.unusedVariables false
set_option linter.unusedSimpArgs false
namespace Go.Proofs.Ytenpgkkefielfaa
open Go.RowKit

/-- v, of n elements of size cells each, owns the cells xs; ahead of them the block may hold what was dropped. -/
def OwnT (W : World) (base : Nat) (e : TypeId) (size : Nat) (v : Value) (n : Nat) (xs : List Value) : Prop :=
  xs.length = n * size ∧
  ((v = .slice none 0 0 ∧ n = 0) ∨
   ∃ g off cap cur, v = .slice (some ⟨g, off, none⟩) n cap ∧ base ≤ g ∧ W.heap[g]? = some (.cells cur e (0, 0)) ∧ n ≤ cap ∧ cap ≤ maxLen ∧ off + cap * size ≤ cur.size ∧ ∀ j, j < n * size → cur[off + j]? = xs[j]?)
section
variable {w w' : World} {base : Nat} {e : TypeId} {size : Nat} {v : Value} {n : Nat} {xs : List Value}
theorem OwnT.nil (w : World) (base : Nat) (e : TypeId) (size : Nat) : OwnT w base e size (.slice none 0 0) 0 [] := ⟨by simp, .inl ⟨rfl, rfl⟩⟩
theorem OwnT.of_own {base' : Nat} (h : w.ownsRow base' e size v n xs) (hb : base ≤ base') : OwnT w base e size v n xs := by
  refine ⟨h.1, ?_⟩
  rcases h.2 with hn | ⟨g, cap, cur, rfl, h1, h2, h3, h4, h5, h6⟩
  · exact .inl hn
  · refine .inr ⟨g, 0, cap, cur, rfl, by omega, h2, h3, h4, by omega, fun j hj => ?_⟩
    rw [← h6, List.getElem?_take_of_lt hj, Nat.zero_add]
    exact Array.getElem?_toList.symm
theorem OwnT.lt (h : OwnT w base e size v n xs) : ∀ k, v.ownBlock = some k → base ≤ k ∧ k < w.heap.size := by
  intro k hk
  rcases h.2 with ⟨rfl, _⟩ | ⟨g, off, cap, cur, rfl, hb, hg, _⟩
  · simp [Value.ownBlock] at hk
  · simp [Value.ownBlock] at hk
    subst hk
    exact ⟨hb, (Array.getElem?_eq_some_iff.1 hg).1⟩
theorem OwnT.kept {row : Option Nat} (h : OwnT w base e size v n xs) (hg : w.grownBy w' row) (hne : v.ownBlock = none ∨ v.ownBlock ≠ row) : OwnT w' base e size v n xs := by
  refine ⟨h.1, ?_⟩
  rcases h.2 with hn | ⟨g, off, cap, cur, rfl, hb, hgg, rest⟩
  · exact .inl hn
  · refine .inr ⟨g, off, cap, cur, rfl, hb, ?_, rest⟩
    rw [hg.block g (Array.getElem?_eq_some_iff.1 hgg).1 (by simpa [Value.ownBlock] using hne)]
    exact hgg
theorem OwnT.below (h : OwnT w base e size v n xs) (hb : Below w.heap.size w w') : OwnT w' base e size v n xs := by
  refine ⟨h.1, ?_⟩
  rcases h.2 with hn | ⟨g, off, cap, cur, rfl, h1, hgg, rest⟩
  · exact .inl hn
  · exact .inr ⟨g, off, cap, cur, rfl, h1, (hb.block g (Array.getElem?_eq_some_iff.1 hgg).1).trans hgg, rest⟩
/-- The first j elements are dropped. -/
theorem OwnT.drop {A : Option Addr} {c j : Nat} (h : OwnT w base e size (.slice A n c) n xs) (hj : j ≤ n) (h0 : 0 < j) :
    ∃ b o, A = some ⟨b, o, none⟩ ∧ OwnT w base e size (.slice (if c = j then some ⟨b, o, none⟩ else some ⟨b, o + j * size, none⟩) (n - j) (c - j)) (n - j) (xs.drop (j * size)) := by
  rcases h.2 with ⟨_, hn⟩ | ⟨g, off, cap, cur, hv, h1, h2, h3, h4, h5, h6⟩
  · omega
  · injection hv with hA _ hc
    subst hA hc
    refine ⟨g, off, rfl, by rw [List.length_drop, h.1, Nat.sub_mul], .inr ⟨g, if c = j then off else off + j * size, c - j, cur, by split <;> rfl, h1, h2, by omega, by omega, ?_, fun k hk => ?_⟩⟩
    · have e1 : (c - j) * size = c * size - j * size := Nat.sub_mul _ _ _
      have e2 : j * size ≤ c * size := Nat.mul_le_mul_right _ (by omega)
      split <;> omega
    · have e1 : (n - j) * size = n * size - j * size := Nat.sub_mul _ _ _
      have e2 : j * size ≤ n * size := Nat.mul_le_mul_right _ (by omega)
      by_cases hcj : c = j
      · have : n = j := by omega
        subst this
        simp at hk
      · rw [if_neg hcj, List.getElem?_drop, ← h6 _ (by omega), Nat.add_assoc]
theorem setCells_heap (b : Nat) : ∀ (vs : List Value) (o : Nat) (w : World) (cur : Array Value), w.heap[b]? = some (.cells cur e (0, 0)) → o + vs.length ≤ cur.size →
    ∃ cur', (w.setCells b o vs).heap[b]? = some (.cells cur' e (0, 0)) ∧ cur'.size = cur.size ∧ (∀ j, j < vs.length → cur'[o + j]? = vs[j]?) ∧ (∀ j, j < o → cur'[j]? = cur[j]?)
  | [], _, _, cur, h, _ => ⟨cur, h, rfl, fun j hj => by simp at hj, fun _ _ => rfl⟩
  | v :: r, o, w, cur, h, hs => by
    obtain ⟨c', h1, h2, h3, h4⟩ := setCells_heap b r (o + 1) (w.setCell ⟨b, o, none⟩ v) (cur.setIfInBounds o v) (by simpa using blk_set h o v) (by simp at hs ⊢; omega)
    refine ⟨c', h1, by rw [h2]; simp, fun j hj => ?_, fun j hj => ?_⟩
    · cases j with
      | zero =>
        simp at hs
        have := h4 o (by omega)
        rw [Nat.add_zero, this, Array.getElem?_setIfInBounds_self_of_lt (by omega)]
        rfl
      | succ j =>
        have := h3 j (by simpa using hj)
        rw [show o + (j + 1) = o + 1 + j by omega, this]
        simp
    · rw [h4 j (by omega)]
      rw [Array.getElem?_setIfInBounds_ne (by omega)]
theorem setCells_grown (b : Nat) : ∀ (vs : List Value) (o : Nat) (w : World), w.grownBy (w.setCells b o vs) (some b)
  | [], _, w => ⟨rfl, rfl, rfl, Nat.le_refl _, fun _ _ _ => rfl⟩
  | v :: r, o, w => by
    have h1 := grown_set w ⟨b, o, none⟩ v
    have h2 := setCells_grown b r (o + 1) (w.setCell ⟨b, o, none⟩ v)
    exact ⟨h2.os.trans h1.os, h2.tape.trans h1.tape, h2.output.trans h1.output, Nat.le_trans h1.size h2.size, fun k hk hne => (h2.block k (Nat.lt_of_lt_of_le hk h1.size) hne).trans (h1.block k hk hne)⟩
theorem run_push_ownT {P : Program} (t ty : TypeId) (i : TypeInfo) (z : Value) (bytes : Nat) (ht : P.underlying t = some (.slice e)) (hi : P.info? e = some i) (hz : i.zero = some z)
    (hsize : i.size = size) (hby : i.bytes = bytes) (hzs : z.cells.size = size) (hsz : 0 < size) (h : OwnT w base e size v n xs)
    (ad : Addr) (m c : Nat) (news : List Value) (hl : news.length = m * size) (hnews : ∀ j u, news[j]? = some u → w.cell? (ad.add j) = some u) (h1 : ∀ u ∈ news, u.oneCell' = true)
    (h63 : n + m ≤ maxLen) (hbytes : (n + m) * bytes ≤ 140737488355328) (hbase : base ≤ w.heap.size) :
    ∃ v' w', (Builtin.append_ #[t, t] ty #[v, .slice (some ad) m c]).run P w = .ok v' w' ∧ OwnT w' base e size v' (n + m) (xs ++ news) ∧ w.grownBy w' v.ownBlock := by
  rcases h.2 with ⟨rfl, rfl⟩ | ⟨g, off, cap, cur, rfl, hb, hg, hnc, hcm, hos, hat⟩
  · obtain rfl : xs = [] := List.eq_nil_of_length_eq_zero (by simpa using h.1)
    obtain ⟨v', w', hrun, r1, r2, _⟩ := run_append_own (P := P) w w.heap.size t ty e i z size bytes ht hi hz hsize hby hzs hsz (.slice none 0 0) 0 [] (World.ownsRow_nil w _ e size) ad m c news hl hnews h1 h63 hbytes (Nat.le_refl _)
    exact ⟨v', w', hrun, OwnT.of_own r1 hbase, by simpa [Value.ownBlock] using r2⟩
  · by_cases hr : n + m ≤ cap
    · have e1 : (n + m) * size = n * size + m * size := Nat.add_mul _ _ _
      have e2 : (n + m) * size ≤ cap * size := Nat.mul_le_mul_right _ hr
      have hin : off + n * size + news.length ≤ cur.size := by omega
      have hrun := run_append_room_cells (P := P) w t ty e i ht hi g off n cap ad m c news (by rw [hsize]; exact hl) hnews h1 hr (fun j hj => by
          rw [hsize, cellsAt hg, Array.getElem?_eq_getElem (by omega)]; rfl) (fun j hj => frozAt hg _)
      rw [hsize] at hrun
      obtain ⟨cur', k1, k2, k3, k4⟩ := setCells_heap (e := e) g news (off + n * size) w cur hg hin
      refine ⟨_, _, hrun, ⟨by rw [List.length_append, h.1, hl, e1], .inr ⟨g, off, cap, cur', rfl, hb, k1, hr, hcm, by omega, fun j hj => ?_⟩⟩, setCells_grown g news _ w⟩
      by_cases hj2 : j < n * size
      · rw [k4 _ (by omega), hat j hj2, List.getElem?_append_left (by rw [h.1]; exact hj2)]
      · have := k3 (j - n * size) (by omega)
        rw [show off + n * size + (j - n * size) = off + j by omega] at this
        rw [this, List.getElem?_append_right (by rw [h.1]; omega), h.1]
    · obtain ⟨v', w', hrun, r1, r2⟩ := run_append_arg_grows (P := P) w t ty e i z size bytes ht hi hz hsize hby hzs hsz ⟨g, off, none⟩ n cap xs h.1 (fun j u hj => by
          have hj2 := (List.getElem?_eq_some_iff.1 hj).1
          rw [h.1] at hj2
          rw [Addr.add_lit, cellsAt hg, hat j hj2]
          exact hj) ad m c news hl hnews (by omega) h63 hbytes
      exact ⟨v', w', hrun, OwnT.of_own r1 hbase, ⟨r2.os, r2.tape, r2.output, r2.size, fun k hk _ => r2.block k hk (by simp)⟩⟩
theorem wpList_push_ownT {P : Program} {ops : Array Oper} {rest : List Oper} {o : Oper} {a : Act} {Q : Exit → Act → World → Prop} (hgd : o.guard = none) (s x : Operand) (t : TypeId)
    (ho : o.op = .call { callee := .builtin .append, args := #[s, x], argTypes := #[t, t] })
    (base : Nat) (e : TypeId) (i : TypeInfo) (z : Value) (size bytes : Nat) (ht : P.underlying t = some (.slice e)) (hi : P.info? e = some i) (hz : i.zero = some z)
    (hsize : i.size = size) (hby : i.bytes = bytes) (hzs : z.cells.size = size) (hsz : 0 < size)
    (v : Value) (n : Nat) (xs : List Value) (hs : a.eval s = v) (hown : OwnT w base e size v n xs)
    (ad : Addr) (m c : Nat) (news : List Value) (hx : a.eval x = .slice (some ad) m c) (hl : news.length = m * size) (hnews : ∀ j u, news[j]? = some u → w.cell? (ad.add j) = some u) (h1 : ∀ u ∈ news, u.oneCell' = true)
    (h63 : n + m ≤ maxLen) (hbytes : (n + m) * bytes ≤ 140737488355328) (hbase : base ≤ w.heap.size)
    (h : ∀ v' w', OwnT w' base e size v' (n + m) (xs ++ news) → w.grownBy w' v.ownBlock → wpList P ops Q rest (a.put o.dst v') w') : wpList P ops Q (o :: rest) a w := by
  refine wpList_plain hgd fun K hK => ?_
  obtain ⟨v', w', hrun, r1, r2⟩ := run_push_ownT (P := P) t o.type i z bytes ht hi hz hsize hby hzs hsz hown ad m c news hl hnews h1 h63 hbytes hbase
  unfold Oper.wp
  simp [execOp, ho, resolve, invoke, builtin, hs, hx, hrun, Result.andThen]
  exact hK _ _ (h v' w' r1 r2)
theorem OwnT.slice (h : OwnT w base e size v n xs) : ∃ A c, v = .slice A n c := by
  rcases h.2 with ⟨rfl, rfl⟩ | ⟨g, off, cap, cur, rfl, _⟩
  · exact ⟨_, _, rfl⟩
  · exact ⟨_, _, rfl⟩
theorem OwnT.row {α : Type} {enc : α → List Value} {l : List α} (hk : ∀ x, (enc x).length = size) (h : OwnT w base e size v n (l.flatMap enc)) (hn : n = l.length) : Row enc size w v l := by
  subst hn
  rcases h.2 with ⟨rfl, h0⟩ | ⟨g, off, cap, cur, rfl, hb, hg, hnc, hcm, hos, hat⟩
  · obtain rfl : l = [] := List.eq_nil_of_length_eq_zero h0
    exact Row.none_
  · refine ⟨_, cap, rfl, hnc, fun _ => ⟨g, off, rfl, (Array.getElem?_eq_some_iff.1 hg).1, fun i x j u hx hu => ?_⟩⟩
    have h1 := flat_at hk hx hu
    have h2 := (List.getElem?_eq_some_iff.1 h1).1
    rw [h.1] at h2
    rw [cellsAt hg, Nat.add_assoc, hat _ h2]
    exact h1
end
end Go.Proofs.Ytenpgkkefielfaa
