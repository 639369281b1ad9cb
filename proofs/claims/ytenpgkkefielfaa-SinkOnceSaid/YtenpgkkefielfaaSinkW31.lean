/-
  Layer 19: the ghost rows of SinkOnce: rows of one's own that grow, kept apart from one another and from the sink's.
-/
import Derived.Test.YtenpgkkefielfaaSinkW30
set_option linter.unusedVariables false
set_option linter.unusedSimpArgs false
namespace Go.Proofs.Ytenpgkkefielfaa
open Go.RowKit

section
variable {w w' : World} {base : Nat} {e : TypeId} {size : Nat} {v : Value} {n : Nat} {xs : List Value}
/-- append to a queue of one's own: where the row lies then. -/
theorem run_push_ownT2 {P : Program} (t ty : TypeId) (i : TypeInfo) (z : Value) (bytes : Nat) (ht : P.underlying t = some (.slice e)) (hi : P.info? e = some i) (hz : i.zero = some z)
    (hsize : i.size = size) (hby : i.bytes = bytes) (hzs : z.cells.size = size) (hsz : 0 < size) (h : OwnT w base e size v n xs)
    (ad : Addr) (m c : Nat) (news : List Value) (hl : news.length = m * size) (hnews : ∀ j u, news[j]? = some u → w.cell? (ad.add j) = some u) (h1 : ∀ u ∈ news, u.oneCell' = true)
    (h63 : n + m ≤ maxLen) (hbytes : (n + m) * bytes ≤ 140737488355328) (hbase : base ≤ w.heap.size) :
    ∃ v' w', (Builtin.append_ #[t, t] ty #[v, .slice (some ad) m c]).run P w = .ok v' w' ∧ OwnT w' base e size v' (n + m) (xs ++ news) ∧ w.grownBy w' v.ownBlock ∧ (v'.ownBlock = v.ownBlock ∨ ∀ b, v'.ownBlock = some b → w.heap.size ≤ b) := by
  rcases h.2 with ⟨rfl, rfl⟩ | ⟨g, off, cap, cur, rfl, hb, hg, hnc, hcm, hos, hat⟩
  · obtain rfl : xs = [] := List.eq_nil_of_length_eq_zero (by simpa using h.1)
    obtain ⟨v', w', hrun, r1, r2, _⟩ := run_append_own (P := P) w w.heap.size t ty e i z size bytes ht hi hz hsize hby hzs hsz (.slice none 0 0) 0 [] (World.ownsRow_nil w _ e size) ad m c news hl hnews h1 h63 hbytes (Nat.le_refl _)
    exact ⟨v', w', hrun, OwnT.of_own r1 hbase, by simpa [Value.ownBlock] using r2, .inr fun b hb => (r1.lt b hb).1⟩
  · by_cases hr : n + m ≤ cap
    · have e1 : (n + m) * size = n * size + m * size := Nat.add_mul _ _ _
      have e2 : (n + m) * size ≤ cap * size := Nat.mul_le_mul_right _ hr
      have hin : off + n * size + news.length ≤ cur.size := by omega
      have hrun := run_append_room_cells (P := P) w t ty e i ht hi g off n cap ad m c news (by rw [hsize]; exact hl) hnews h1 hr (fun j hj => by
          rw [hsize, cellsAt hg, Array.getElem?_eq_getElem (by omega)]; rfl) (fun j hj => frozAt hg _)
      rw [hsize] at hrun
      obtain ⟨cur', k1, k2, k3, k4⟩ := setCells_heap (e := e) g news (off + n * size) w cur hg hin
      refine ⟨_, _, hrun, ⟨by rw [List.length_append, h.1, hl, e1], .inr ⟨g, off, cap, cur', rfl, hb, k1, hr, hcm, by omega, fun j hj => ?_⟩⟩, setCells_grown g news _ w, .inl rfl⟩
      by_cases hj2 : j < n * size
      · rw [k4 _ (by omega), hat j hj2, List.getElem?_append_left (by rw [h.1]; exact hj2)]
      · have := k3 (j - n * size) (by omega)
        rw [show off + n * size + (j - n * size) = off + j by omega] at this
        rw [this, List.getElem?_append_right (by rw [h.1]; omega), h.1]
    · obtain ⟨v', w', hrun, r1, r2⟩ := run_append_arg_grows (P := P) w t ty e i z size bytes ht hi hz hsize hby hzs hsz ⟨g, off, none⟩ n cap xs h.1 (fun j u hj => by
          have hj2 := (List.getElem?_eq_some_iff.1 hj).1
          rw [h.1] at hj2
          rw [Addr.add_lit, cellsAt hg, hat j hj2]
          exact hj) ad m c news hl hnews (by omega) h63 hbytes
      exact ⟨v', w', hrun, OwnT.of_own r1 hbase, ⟨r2.os, r2.tape, r2.output, r2.size, fun k hk _ => r2.block k hk (by simp)⟩, .inr fun b hb => (r1.lt b hb).1⟩
/-- The row lies where it lay, or in new memory. -/
def Moved (w : World) (v v' : Value) : Prop := v'.ownBlock = v.ownBlock ∨ ∀ b, v'.ownBlock = some b → w.heap.size ≤ b
theorem wpList_pushT {P : Program} {ops : Array Oper} {rest : List Oper} {o : Oper} {a : Act} {Q : Exit → Act → World → Prop} (hgd : o.guard = none) (s x : Operand) (t : TypeId)
    (ho : o.op = .call { callee := .builtin .append, args := #[s, x], argTypes := #[t, t] })
    (base : Nat) (e : TypeId) (i : TypeInfo) (z : Value) (size bytes : Nat) (ht : P.underlying t = some (.slice e)) (hi : P.info? e = some i) (hz : i.zero = some z)
    (hsize : i.size = size) (hby : i.bytes = bytes) (hzs : z.cells.size = size) (hsz : 0 < size)
    (v : Value) (n : Nat) (xs : List Value) (hs : a.eval s = v) (hown : OwnT w base e size v n xs)
    (ad : Addr) (m c : Nat) (news : List Value) (hx : a.eval x = .slice (some ad) m c) (hl : news.length = m * size) (hnews : ∀ j u, news[j]? = some u → w.cell? (ad.add j) = some u) (h1 : ∀ u ∈ news, u.oneCell' = true)
    (h63 : n + m ≤ maxLen) (hbytes : (n + m) * bytes ≤ 140737488355328) (hbase : base ≤ w.heap.size)
    (h : ∀ v' w', OwnT w' base e size v' (n + m) (xs ++ news) → w.grownBy w' v.ownBlock → Moved w v v' → wpList P ops Q rest (a.put o.dst v') w') : wpList P ops Q (o :: rest) a w := by
  refine wpList_plain hgd fun K hK => ?_
  obtain ⟨v', w', hrun, r1, r2, r3⟩ := run_push_ownT2 (P := P) t o.type i z bytes ht hi hz hsize hby hzs hsz hown ad m c news hl hnews h1 h63 hbytes hbase
  unfold Oper.wp
  simp [execOp, ho, resolve, invoke, builtin, hs, hx, hrun, Result.andThen]
  exact hK _ _ (h v' w' r1 r2 r3)
/-- append of a row, whatever it is. -/
theorem wpList_rowT {P : Program} {ops : Array Oper} {rest : List Oper} {o : Oper} {a : Act} {Q : Exit → Act → World → Prop} (hgd : o.guard = none) (s x : Operand) (t : TypeId)
    (ho : o.op = .call { callee := .builtin .append, args := #[s, x], argTypes := #[t, t] })
    (base : Nat) (e : TypeId) (i : TypeInfo) (z : Value) (size bytes : Nat) (ht : P.underlying t = some (.slice e)) (hi : P.info? e = some i) (hz : i.zero = some z)
    (hsize : i.size = size) (hby : i.bytes = bytes) (hzs : z.cells.size = size) (hsz : 0 < size)
    (v : Value) (n : Nat) (xs : List Value) (hs : a.eval s = v) (hown : OwnT w base e size v n xs)
    {α : Type} {enc : α → List Value} {l : List α} {vx : Value} (hk : ∀ x, (enc x).length = size) (hx : a.eval x = vx) (hr : Row enc size w vx l) (h1 : ∀ u ∈ l.flatMap enc, u.oneCell' = true)
    (h63 : n + l.length ≤ maxLen) (hbytes : (n + l.length) * bytes ≤ 140737488355328) (hbase : base ≤ w.heap.size)
    (h : ∀ v' w', OwnT w' base e size v' (n + l.length) (xs ++ l.flatMap enc) → w.grownBy w' v.ownBlock → Moved w v v' → wpList P ops Q rest (a.put o.dst v') w') : wpList P ops Q (o :: rest) a w := by
  obtain ⟨A, c, rfl, hc, hA⟩ := hr
  cases A with
  | none =>
    have hl0 : l = [] := by
      cases l with
      | nil => rfl
      | cons a l =>
        obtain ⟨b, o, h, -⟩ := hA (by simp)
        cases h
    subst hl0
    refine wpList_plain hgd fun K hK => ?_
    have hrun : (Builtin.append_ #[t, t] o.type #[v, .slice none 0 c]).run P w = .ok v w := by
      rcases hown.2 with ⟨rfl, rfl⟩ | ⟨g, off, cap, cur, rfl, _, _, hnc, _⟩
      · simp [Builtin.append_, run_underlying ht, sizeOf, typeInfo, hi, Builtin.lenOf, Builtin.firstCells]
      · simp [Builtin.append_, run_underlying ht, sizeOf, typeInfo, hi, Builtin.lenOf, Builtin.firstCells, hnc, storeCells]
    unfold Oper.wp
    simp only [List.length_nil] at hx
    simp [execOp, ho, resolve, invoke, builtin, hs, hx, hrun, Result.andThen]
    exact hK _ _ (h v w (by simpa using hown) ⟨rfl, rfl, rfl, Nat.le_refl _, fun _ _ _ => rfl⟩ (.inl rfl))
  | some ad =>
    refine wpList_pushT hgd s x t ho base e i z size bytes ht hi hz hsize hby hzs hsz v n xs hs hown ad l.length c (l.flatMap enc) hx (flat_len hk l) ?_ h1 h63 hbytes hbase h
    intro j u hj
    have h0 : 0 < l.length := by
      cases l with
      | nil => simp at hj
      | cons a l => simp
    obtain ⟨b, o, h, hb, hx⟩ := hA h0
    obtain ⟨i, x, j', h1, h2, rfl⟩ := flat_inv hk hj
    injection h with h
    rw [h, add_at, ← Nat.add_assoc]
    exact hx i x j' u h1 h2
end
theorem ownT_ne {w : World} {b1 b2 : Nat} {e1 e2 : TypeId} {s1 s2 n1 n2 : Nat} {v1 v2 : Value} {x1 x2 : List Value} (h1 : OwnT w b1 e1 s1 v1 n1 x1) (h2 : OwnT w b2 e2 s2 v2 n2 x2) (hne : e1 ≠ e2) : v1.ownBlock = none ∨ v1.ownBlock ≠ v2.ownBlock := by
  rcases h1.2 with ⟨rfl, -⟩ | ⟨g, off, cap, cur, rfl, -, hg, -⟩
  · exact .inl rfl
  · rcases h2.2 with ⟨rfl, -⟩ | ⟨g2, off2, cap2, cur2, rfl, -, hg2, -⟩
    · right; simp [Value.ownBlock]
    · right
      intro he
      simp [Value.ownBlock] at he
      subst he
      rw [hg] at hg2
      injection hg2 with hg2
      injection hg2 with _ h _
      exact hne h
/-- A row that lies in none of the blocks of v stays when v grows. -/
theorem Row.offO {α : Type} {enc : α → List Value} {kk : Nat} {W W' : World} {u : Value} {l : List α} (h : Row enc kk W u l) {o : Option Nat} (hv : ∀ b, o = some b → u.ownBlock ≠ some b) (hb : W.grownBy W' o) : Row enc kk W' u l := by
  cases o with
  | some g => exact h.off (hv g rfl) hb
  | none => exact h.below ⟨hb.os, hb.tape, hb.output, hb.size, fun k hk => hb.block k hk (by simp)⟩
def KOffO (o : Option Nat) (v : Value) (k : Snk) : Prop := ∀ g, o = some g → KOff g v k
theorem KAt.offO {W W' : World} {v : Value} {k : Snk} (h : KAt W v k) {o : Option Nat} (ho : KOffO o v k) (hb : W.grownBy W' o) : KAt W' v k := by
  cases o with
  | some g => exact h.off (ho g rfl) hb
  | none => exact h.below ⟨hb.os, hb.tape, hb.output, hb.size, fun k hk => hb.block k hk (by simp)⟩
theorem KOffO.moved {W : World} {u u' : Value} {v : Value} {k : Snk} (h : KOffO u.ownBlock v k) (hi : KIn W.heap.size v k) (hm : Moved W u u') : KOffO u'.ownBlock v k := by
  intro g hg
  rcases hm with e | e
  · exact h g (by rw [← e]; exact hg)
  · exact hi.off (e g hg)
abbrev TR : TypeId := 41
abbrev TG : TypeId := 82
/-- The ghost: what was added and is not staged, what counts, and stages; each in a row of its own, kept apart. -/
structure Gh (W : World) (B : Nat) (vo vu vg : Value) (op out : List Res) (gs : List Stg) : Prop where
  o : OwnT W B 41 5 vo op.length (op.flatMap Res.cs)
  u : OwnT W B 41 5 vu out.length (out.flatMap Res.cs)
  g : OwnT W B 82 2 vg gs.length (gs.flatMap Stg.cs)
  rows : ∀ x ∈ gs, Row Res.cs 5 W x.row x.l ∧ (∀ b, x.row.ownBlock = some b → (B ≤ b ∧ b < W.heap.size) ∧ vo.ownBlock ≠ some b ∧ vu.ownBlock ≠ some b ∧ vg.ownBlock ≠ some b)
  ou : vo.ownBlock = none ∨ vo.ownBlock ≠ vu.ownBlock
end Go.Proofs.Ytenpgkkefielfaa
