/-
  WALKS of layer 19: the program's Commit that takes.
-/
import Derived.Test.YtenpgkkefielfaaSinkW19
import Derived.Deep.RegionLaw
import Derived.Deep.DeepCutAuto
import Derived.Laws.AppendOwnNone
set_option linter.unusedVariables false
set_option linter.unusedSimpArgs false
namespace Go.Proofs.Ytenpgkkefielfaa
open Go.RowKit

def posN (st : List Stg) (n : Int) : Nat := (st.takeWhile (fun x => decide (x.n < n))).length + 1
theorem posN_eq {st : List Stg} {n : Int} : ∀ {k : Nat} {x : Stg}, (∀ j y, j < k → st[j]? = some y → y.n < n) → st[k]? = some x → ¬ x.n < n → posN st n = k + 1 := by
  unfold posN
  induction st with
  | nil => intro k x _ h; simp at h
  | cons a l ih =>
    intro k x h1 h2 h3
    cases k with
    | zero => simp at h2; subst h2; rw [List.takeWhile_cons, if_neg (by simpa using h3)]; rfl
    | succ k =>
      have ha := h1 0 a (by omega) rfl
      have := ih (k := k) (x := x) (fun j y hj hy => h1 (j + 1) y (by omega) (by simpa using hy)) (by simpa using h2) h3
      rw [List.takeWhile_cons, if_pos (by simpa using ha), List.length_cons]
      omega
/-- Where a stage of that number is, not all can be ahead of it. -/
theorem posN_ex {st : List Stg} {n : Int} (h : st.any (fun x => x.n == n) = true) : ∀ k, (∀ j y, j < k → st[j]? = some y → y.n < n) → k < st.length := by
  intro k hk
  obtain ⟨x, hx, he⟩ := List.any_eq_true.1 h
  obtain ⟨j, hj, rfl⟩ := List.mem_iff_getElem.1 hx
  by_cases hjk : j < k
  · have := hk j _ hjk (List.getElem?_eq_getElem hj)
    simp at he
    omega
  · omega
def outTo (out : List Res) (st : List Stg) (k : Nat) : List Res := out ++ (st.take k).flatMap Stg.l
theorem outTo_succ {out : List Res} {st : List Stg} {k : Nat} {x : Stg} (h : st[k]? = some x) : outTo out st (k + 1) = outTo out st k ++ x.l := by
  unfold outTo
  rw [List.take_add_one, h, List.flatMap_append, List.append_assoc]
  simp
theorem sum_take (st : List Stg) (n : Int) : ∀ k, k ≤ st.length → sumTo st n k = n + (((st.take k).flatMap Stg.l).length : Int)
  | 0, _ => by show n = _; simp
  | k + 1, hk => by
    have h1 := sum_take st n k (by omega)
    show sumTo st n k + (st[k]!.l.length : Int) = _
    rw [h1, List.take_add_one, List.getElem?_eq_getElem (by omega), List.flatMap_append, List.getElem!_eq_getElem?_getD, List.getElem?_eq_getElem (by omega)]
    simp
    omega
theorem outTo_len {op : List Res} {st : List Stg} {last : Int} {out : List Res} (h : rightS op st last out = true) : ∀ k, k ≤ st.length → (outTo out st k).length ≤ 20000 := by
  intro k hk
  have hc : cntS op st out ≤ 20000 := (room_of h).2
  have e := (cnt_lens hc).2.2.2
  rw [e] at hc
  have h1 := sumTo_mono st ((op.length : Int) + out.length) k (st.length - k)
  rw [show k + (st.length - k) = st.length by omega] at h1
  have h2 := sum_take st ((op.length : Int) + out.length) k hk
  unfold outTo
  rw [List.length_append]
  omega
/-- append of a slice that is nothing. -/
theorem wpList_app0 {P : Program} {w : World} {ops : Array Oper} {rest : List Oper} {o : Oper} {a : Act} {Q : Exit → Act → World → Prop} (hgd : o.guard = none) (s x : Operand) (t : TypeId)
    (ho : o.op = .call { callee := .builtin .append, args := #[s, x], argTypes := #[t, t] })
    (base : Nat) (e : TypeId) (i : TypeInfo) (size : Nat) (ht : P.underlying t = some (.slice e)) (hi : P.info? e = some i)
    (v : Value) (n : Nat) (xs : List Value) (hs : a.eval s = v) (hown : w.ownsRow base e size v n xs) (c : Nat) (hx : a.eval x = .slice none 0 c)
    (h : wpList P ops Q rest (a.put o.dst v) w) : wpList P ops Q (o :: rest) a w := by
  refine wpList_plain hgd fun K hK => ?_
  have hrun : (Builtin.append_ #[t, t] o.type #[v, .slice none 0 c]).run P w = .ok v w := by
    rcases hown.2 with ⟨rfl, rfl⟩ | ⟨g, cap, cur, rfl, _, _, hnc, _⟩
    · simp [Builtin.append_, run_underlying ht, sizeOf, typeInfo, hi, Builtin.lenOf, Builtin.firstCells]
    · simp [Builtin.append_, run_underlying ht, sizeOf, typeInfo, hi, Builtin.lenOf, Builtin.firstCells, hnc, storeCells]
  unfold Oper.wp
  simp [execOp, ho, resolve, invoke, builtin, hs, hx, hrun, Result.andThen]
  exact hK _ _ h
/-- append of a row that reads as a list, to a row of one's own. -/
theorem wpList_appRow {P : Program} {w : World} {ops : Array Oper} {rest : List Oper} {o : Oper} {a : Act} {Q : Exit → Act → World → Prop} (hgd : o.guard = none) (s x : Operand) (t : TypeId)
    (ho : o.op = .call { callee := .builtin .append, args := #[s, x], argTypes := #[t, t] })
    (base : Nat) (e : TypeId) (i : TypeInfo) (z : Value) (size bytes : Nat) (ht : P.underlying t = some (.slice e)) (hi : P.info? e = some i) (hz : i.zero = some z)
    (hsize : i.size = size) (hby : i.bytes = bytes) (hzs : z.cells.size = size) (hsz : 0 < size)
    (v : Value) (n : Nat) (xs : List Value) (hs : a.eval s = v) (hown : w.ownsRow base e size v n xs)
    {α : Type} {enc : α → List Value} {l : List α} {vx : Value} (hk : ∀ x, (enc x).length = size) (hx : a.eval x = vx) (hr : Row enc size w vx l) (h1 : ∀ u ∈ l.flatMap enc, u.oneCell' = true)
    (h63 : n + l.length ≤ maxLen) (hbytes : (n + l.length) * bytes ≤ 140737488355328) (hbase : base ≤ w.heap.size)
    (h : ∀ v' w', w'.ownsRow base e size v' (n + l.length) (xs ++ l.flatMap enc) → w.grownBy w' v.ownBlock → wpList P ops Q rest (a.put o.dst v') w') : wpList P ops Q (o :: rest) a w := by
  obtain ⟨A, c, rfl, hc, hA⟩ := hr
  cases A with
  | none =>
    have hl0 : l = [] := by
      cases l with
      | nil => rfl
      | cons a l =>
        obtain ⟨b, o, h, -⟩ := hA (by simp)
        cases h
    subst hl0
    exact wpList_app0 hgd s x t ho base e i size ht hi v n xs hs hown c hx (h v w (by simpa using hown) ⟨rfl, rfl, rfl, Nat.le_refl _, fun _ _ _ => rfl⟩)
  | some ad =>
    refine wpList_append_own w hgd s x t ho base e i z size bytes ht hi hz hsize hby hzs hsz v n xs hs hown ad l.length c (l.flatMap enc) hx (flat_len hk l) ?_ h1 h63 hbytes hbase ?_
    · intro j u hj
      have h0 : 0 < l.length := by
        cases l with
        | nil => simp at hj
        | cons a l => simp
      obtain ⟨b, o, h, hb, hx⟩ := hA h0
      obtain ⟨i, x, j', h1, h2, rfl⟩ := flat_inv hk hj
      injection h with h
      rw [h, add_at, ← Nat.add_assoc]
      exact hx i x j' u h1 h2
    · intro v' w' h1 h2 _
      exact h v' w' h1 h2
/-- A row without its first elements. -/
theorem Row.drop {α : Type} {enc : α → List Value} {k : Nat} {W : World} {l : List α} {b o c j : Nat} (h : Row enc k W (.slice (some ⟨b, o, none⟩) l.length c) l) (hj : j ≤ l.length) :
    Row enc k W (.slice (if c = j then some ⟨b, o, none⟩ else some ⟨b, o + j * k, none⟩) (l.length - j) (c - j)) (l.drop j) := by
  obtain ⟨A, c', e, hc, h⟩ := h
  injection e with e1 _ e3
  subst e1 e3
  refine ⟨_, c - j, by rw [List.length_drop], by rw [List.length_drop]; omega, fun hl => ?_⟩
  rw [List.length_drop] at hl
  obtain ⟨b', o', ha, hb, hx⟩ := h (by omega)
  injection ha with ha
  injection ha with h1 h2
  subst h1 h2
  refine ⟨b, o + j * k, by rw [if_neg (by omega)], hb, fun i x m u h1 h2 => ?_⟩
  rw [List.getElem?_drop] at h1
  have := hx (j + i) x m u h1 h2
  rw [Nat.add_mul] at this
  rw [show o + j * k + i * k + m = o + (j * k + i * k) + m by omega]
  exact this
def ComRel (st : List Stg) (out : List Res) (n : Int) (base : Nat) (w0 : World) (o i : Value) (wr : World) : Prop :=
  ∃ k : Nat, i = .int .i64 k ∧ (∀ j y, j < k → st[j]? = some y → y.n < n) ∧ wr.ownsRow base 41 5 o (outTo out st k).length ((outTo out st k).flatMap Res.cs) ∧ Below base w0 wr
theorem outTo_wf {W : World} {out : List Res} {st : List Stg} {v : Value} (h1 : RowR W v out) (h2 : ∀ x ∈ st, x.At W) (k : Nat) : ∀ x ∈ outTo out st k, x.Wf := by
  intro x hx
  unfold outTo at hx
  rcases List.mem_append.1 hx with h | h
  · exact h1.2.1 x h
  · obtain ⟨y, hy, hxy⟩ := List.mem_flatMap.1 h
    exact (h2 y (List.mem_of_mem_take hy)).2.2.1 x hxy
set_option maxRecDepth 100000 in
set_option maxHeartbeats 4000000 in
theorem scommit_yes (op : List Res) (st : List Stg) (last : Int) (out : List Res) (n : Int) (hn : wfL n) (v : Value) (w : World) (hv : SinkAt w v op st last out) (h : rightS op st last out = true) (h2 : last < n) (h3 : st.any (fun x => x.n == n) = true) :
    Calls Try.prog 38 #[v, .int .i64 n] w fun e w' => (∃ v', e = .returned (.tuple #[v', .int .i64 0]) ∧ SinkAt w' v' op (st.drop (posN st n)) n (out ++ (st.take (posN st n)).flatMap Stg.l) ∧ LocK w w' v v') ∧ Below w.heap.size w w' := by
  have hlens := right_lens h
  have HK := Lib.hid (fun v W hW => cloneR_any out v W hW (by omega))
  have HO8 := Lib.hid (outTo_len h)
  have HSE := Lib.hid (posN_ex h3)
  have HR := Lib.hid (fun v W hW => sright_any op st last out v W hW true h)
  obtain ⟨vo, vs, vu, ev, hR1, hR2, hR4, hR3⟩ := hv
  have R1 := Lib.hid hR1
  have R2 := Lib.hid hR2
  have R3 := Lib.hid hR3
  have H4 := Lib.hid hR4
  have hv : SinkAt w v op st last out := ⟨vo, vs, vu, ev, hR1, hR2, hR4, hR3⟩
  clear hR1 hR2 hR3 hR4
  have HV := Lib.hid hv
  obtain ⟨A1, c1, A2, c2, A3, c3, ev2⟩ := sink_form hv
  subst ev2
  injection ev with ev
  injection ev with ev
  simp at ev
  obtain ⟨rfl, rfl, rfl⟩ := ev
  obtain ⟨i0, hi, hi0, hi1, hi2⟩ := info_parts info_rs
  have HI := Lib.hid hi
  have HZ0 := Lib.hid hi0
  have HZ1 := Lib.hid hi1
  have HZ2 := Lib.hid hi2
  clear hi hi0 hi1 hi2
  have hl4 := hn
  unfold wfL at hl4
  have HN := Lib.hid hn
  clear hv h hn
  have HCT := Lib.hid (fun v g W hW hg => scontains_any st n g v W hW hg true (by rw [hasN_any, h3]))
  clear h3
  go_enter Try.func38, Try.ntmps38
  go_wp2_with fail
  go_step3
  go_wp2_with fail
  obtain ⟨W1, hW1⟩ : ∃ W1, W1 = ((w.alloc (.cells #[.slice A1 op.length c1, .slice A2 st.length c2, .int .i64 last, .slice A3 out.length c3] 66)).alloc (.cells #[.int .i64 n] 3)).alloc (.cells #[.slice none 0 0, .slice none 0 0, .int .i64 0, .slice none 0 0] 66) := ⟨_, rfl⟩
  rw [← hW1]
  have BW := Lib.hid (show Below w.heap.size w W1 by rw [hW1]; exact bel_alloc (bel_alloc (bel_alloc (Below.refl _ _) _) _) _)
  have K2 := Lib.hid (show W1.heap[w.heap.size + 1 + 1]? = some (.cells #[.slice none 0 0, .slice none 0 0, .int .i64 0, .slice none 0 0] 66 (0, 0)) by rw [hW1]; exact heap_at _ _ _ (by simp))
  have K1 := Lib.hid (show W1.heap[w.heap.size + 1]? = some (.cells #[.int .i64 n] 3 (0, 0)) by rw [hW1]; exact heap_below (heap_at (w.alloc _) _ (w.heap.size + 1) (by simp)) (bel_alloc (Below.refl _ _) _))
  have K0 := Lib.hid (show W1.heap[w.heap.size]? = some (.cells #[.slice A1 op.length c1, .slice A2 st.length c2, .int .i64 last, .slice A3 out.length c3] 66 (0, 0)) by rw [hW1]; exact newA (bel_alloc (bel_alloc (Below.refl _ _) _) _))
  clear hW1
  refine (HR.out _ _ (HV.out.below BW.out)).mono ?_
  rintro e w1 ⟨rfl, hb1⟩
  have B1 := Lib.hid (bThen BW.out hb1)
  have L0 := Lib.hid (heap_below K0.out hb1)
  have L1 := Lib.hid (heap_below K1.out hb1)
  have L2 := Lib.hid (heap_below K2.out hb1)
  clear hb1 K0 K1 K2
  have hz2 := blk_lt L2.out
  have hz1 := blk_lt L1.out
  have hz0 := blk_lt L0.out
  have d0 := cellsAt L2.out 0
  have d1 := cellsAt L2.out 1
  have d2 := cellsAt L2.out 2
  have d3 := cellsAt L2.out 3
  have dz := frozAt L2.out
  simp at d0 d1 d2 d3
  have s0 := cellsAt L0.out 0
  have s1 := cellsAt L0.out 1
  have s2 := cellsAt L0.out 2
  have s3 := cellsAt L0.out 3
  have sz := frozAt L0.out
  simp at s0 s1 s2 s3
  have m0 := cellsAt L1.out 0
  have mz := frozAt L1.out
  simp at m0
  go_wp2_with fail
  refine (HCT.out _ _ _ ⟨R2.out.1.below B1.out, fun x hx => (R2.out.2.1 x hx).below B1.out, R2.out.2.2⟩ L1.out).mono ?_
  rintro e w2 ⟨rfl, hb2⟩
  have B2 := Lib.hid (bThen B1.out hb2)
  have M0 := Lib.hid (heap_below L0.out hb2)
  have M1 := Lib.hid (heap_below L1.out hb2)
  have M2 := Lib.hid (heap_below L2.out hb2)
  clear hb2 L0 L1 L2 d0 d1 d2 d3 dz s0 s1 s2 s3 sz m0 mz hz2 hz1 hz0
  have hz2 := blk_lt M2.out
  have hz1 := blk_lt M1.out
  have hz0 := blk_lt M0.out
  have d0 := cellsAt M2.out 0
  have d1 := cellsAt M2.out 1
  have d2 := cellsAt M2.out 2
  have d3 := cellsAt M2.out 3
  have dz := frozAt M2.out
  simp at d0 d1 d2 d3
  have s0 := cellsAt M0.out 0
  have s1 := cellsAt M0.out 1
  have s2 := cellsAt M0.out 2
  have s3 := cellsAt M0.out 3
  have sz := frozAt M0.out
  simp at s0 s1 s2 s3
  have m0 := cellsAt M1.out 0
  have mz := frozAt M1.out
  simp at m0
  go_wp2_with fail
  refine (HK.out _ _ (R3.out.1.below B2.out)).mono ?_
  rintro e w3 ⟨v3, rfl, hown, hb3⟩
  obtain ⟨A4, c4, rfl⟩ := own_slice hown
  have B3 := Lib.hid (bThen B2.out hb3)
  have N0 := Lib.hid (heap_below M0.out hb3)
  have N1 := Lib.hid (heap_below M1.out hb3)
  have N2 := Lib.hid (heap_below M2.out hb3)
  have O3 := Lib.hid (own_base hown (base' := w.heap.size + 1 + 1 + 1) (by omega))
  clear hb3 hown M0 M1 M2 d0 d1 d2 d3 dz s0 s1 s2 s3 sz m0 mz hz2 hz1 hz0
  go_wp2_with fail
  go_step3
  have hb3z := blk_lt N2.out
  go_wp2_with fail
  go_loopw [6, 7] (fun o i wr => ComRel st out n (w.heap.size + 1 + 1 + 1) w3 o i wr) (fun _ i _ => st.length - (intOf i).toNat)
  case atStart => exact ⟨0, rfl, by intro j y hj; omega, by unfold outTo; simpa using O3.out, Below.refl _ _⟩
  case round =>
    obtain ⟨k, rfl, hall, hown, hbel⟩ := hrel
    have HB := Lib.hid hbel
    have HO := Lib.hid hown
    have hlt := HSE.out k hall
    have HL := Lib.hid hall
    clear hbel hown hall
    have BWr := Lib.hid (B3.out.trans (HB.out.mono (by omega)))
    have N0r := Lib.hid ((HB.out.block w.heap.size (by omega)).trans N0.out)
    have N1r := Lib.hid ((HB.out.block (w.heap.size + 1) (by omega)).trans N1.out)
    obtain ⟨x, hi⟩ : ∃ x, st[k]? = some x := ⟨_, List.getElem?_eq_getElem hlt⟩
    obtain ⟨b', o, c', e', hc', hb, hX⟩ := R2.out.1.at_ hi
    injection e' with e1 _ e3
    subst e1
    clear e3 hc'
    have q0 := (BWr.out.cell (p := ⟨b', o + k * 2 + 0, none⟩) hb).trans (hX 0 _ rfl)
    have q1 := (BWr.out.cell (p := ⟨b', o + k * 2 + 1, none⟩) hb).trans (hX 1 _ rfl)
    have HIx := Lib.hid hi
    have hxl : x.l.length ≤ 20000 := by
      have := HO8.out (k + 1) (by omega)
      rw [outTo_succ hi, List.length_append] at this
      omega
    have hol : (outTo out st k).length + x.l.length ≤ 20000 := by
      have := HO8.out (k + 1) (by omega)
      rw [outTo_succ hi, List.length_append] at this
      omega
    have RX := Lib.hid (((R2.out.2.1 x (List.mem_of_getElem? hi)).2).below BWr.out)
    obtain ⟨⟨Ax, cx, hxe, -, -⟩, -⟩ := RX.out
    clear hX hi
    obtain ⟨xn, xr, xl⟩ := x
    simp only [Nat.add_zero] at q0 q1 hxe hxl hol
    subst hxe
    have s0 := cellsAt N0r.out 0
    have s1 := cellsAt N0r.out 1
    have m0 := cellsAt N1r.out 0
    have hz0 := blk_lt N0r.out
    have hz1 := blk_lt N1r.out
    simp at s0 s1 m0
    have hzb := Nat.lt_of_lt_of_le hb BWr.out.size
    go_upto_region 10 with fail
    obtain ⟨W4, hW4⟩ : ∃ W4, W4 = wr.alloc (.cells #[.int .i64 xn, .slice Ax xl.length cx] 85) := ⟨_, rfl⟩
    rw [← hW4]
    have b4 : Below wr.heap.size wr W4 := by rw [hW4]; exact bel_alloc (Below.refl _ _) _
    have X4 := Lib.hid (show W4.heap[wr.heap.size]? = some (.cells #[.int .i64 xn, .slice Ax xl.length cx] 85 (0, 0)) by rw [hW4]; exact heap_at _ _ _ rfl)
    have O4 := Lib.hid (show W4.ownsRow (w.heap.size + 1 + 1 + 1) 41 5 u6 (outTo out st k).length ((outTo out st k).flatMap Res.cs) by rw [hW4]; exact HO.out.alloc _)
    have B4 := Lib.hid (HB.out.trans (b4.mono (by have := HB.out.size; omega)))
    have RX4 := Lib.hid (show RowR W4 (.slice Ax xl.length cx) xl from RX.out.below b4)
    clear hW4 q0 q1 s0 s1 m0 hz0 hz1 hzb b4
    have HOlt := fun q (hq : some q = Value.ownBlock u6) => (HO.out.lt q hq.symm).2
    clear HB HO RX
    obtain ⟨Au, cu, rfl⟩ := own_slice O4.out
    have xz := blk_lt X4.out
    have q0 := cellsAt X4.out 0
    have q1 := cellsAt X4.out 1
    simp at q0 q1
    go_wp2_with (at_builtin; refine wpList_appRow rfl _ _ 63 rfl (w.heap.size + 1 + 1 + 1) 41 i0 (.agg #[.int .i64 0, .int .i64 0, .string ⟨#[]⟩, .int .i64 0, .int .i64 0]) 5 48 Try.underlying63 HI.out HZ0.out HZ1.out HZ2.out rfl (by decide) _ _ _ rfl O4.out Res.cs_len rfl RX4.out.1 Res.cs_one (by unfold maxLen; omega) (by omega) (by have := B4.out.size; omega) ?_)
    intro v5 W5 hown5 hgrow5
    obtain ⟨A5, c5, rfl⟩ := own_slice hown5
    have BG : Below (w.heap.size + 1 + 1 + 1) W4 W5 := (Below.refl (w.heap.size + 1 + 1 + 1) W4).grown hgrow5 (by have := B4.out.size; omega) (fun q hq => (O4.out.lt q hq).1)
    have X5 := Lib.hid ((hgrow5.block wr.heap.size xz (fun e => by have := HOlt _ e; omega)).trans X4.out)
    have B5 := Lib.hid (B4.out.trans BG)
    have O5 := Lib.hid hown5
    clear BG hown5 hgrow5 q0 q1 X4 xz
    have N1r := Lib.hid ((B5.out.block (w.heap.size + 1) (by omega)).trans N1.out)
    have m0 := cellsAt N1r.out 0
    have hz1 := blk_lt N1r.out
    have q0 := cellsAt X5.out 0
    have xz := blk_lt X5.out
    simp at m0 q0
    by_cases hxn : xn < n
    · go_wp2_with fail
      go_roundw
      case rel =>
        refine ⟨k + 1, by go_num, fun j y hj hy => ?_, by rw [outTo_succ HIx.out, List.length_append, List.flatMap_append]; exact O5.out, B5.out⟩
        by_cases hjk : j < k
        · exact HL.out j y hjk hy
        · obtain rfl : j = k := by omega
          rw [HIx.out] at hy
          injection hy with hy
          subst hy
          exact hxn
      case measure => simp [intOf]; omega
    · have hpos : posN st n = k + 1 := posN_eq HL.out HIx.out hxn
      go_wp2_with fail
      have S5 := Lib.hid ((B5.out.block w.heap.size (by omega)).trans N0.out)
      have Z5 := Lib.hid ((B5.out.block (w.heap.size + 1 + 1) (by omega)).trans N2.out)
      have BW5 := Lib.hid (B3.out.trans (B5.out.mono (by omega)))
      have s0 := cellsAt S5.out 0
      have s1 := cellsAt S5.out 1
      have s2 := cellsAt S5.out 2
      have s3 := cellsAt S5.out 3
      have sz := frozAt S5.out
      have hz0 := blk_lt S5.out
      have hz2 := blk_lt Z5.out
      simp at s0 s1 s2 s3
      have RS5 := R2.out.1.below BW5.out
      have hb1 : (0 : Int) ≤ (k : Int) + 1 := by omega
      have hb2 : (k : Int) + 1 ≤ (st.length : Int) := by omega
      have hb3 : ((k : Int) + 1).toNat = k + 1 := by omega
      have RD := Row.drop RS5 (j := k + 1) (by omega)
      obtain ⟨AD, hAD⟩ : ∃ AD, (if c2 = k + 1 then some (⟨b', o, none⟩ : Addr) else some ⟨b', o + (k + 1) * 2, none⟩) = AD := ⟨_, rfl⟩
      rw [hAD] at RD
      have HKS := Lib.hid (fun v W hW => cloneS_any (st.drop (k + 1)) v W hW (by rw [List.length_drop]; omega) (Stg.cs_one (W := w) (fun x hx => R2.out.2.1 x (List.mem_of_mem_drop hx))))
      clear RS5
      go_region_law (first | (go_simp; go_at_call 59; refine (HKS.out _ _ (Row.drew RD)).mono ?_; rintro e w6 ⟨v6, rfl, hown6, hb6'⟩; have hb6 := bUndrew hb6'; obtain ⟨A6, c6, rfl⟩ := own_slice hown6; have t0 : w6.cell? ⟨w.heap.size, 0, none⟩ = some _ := (hb6.cell (p := ⟨w.heap.size, 0, none⟩) hz0).trans s0; have t1 : w6.cell? ⟨w.heap.size, 1, none⟩ = some _ := (hb6.cell (p := ⟨w.heap.size, 1, none⟩) hz0).trans s1; have t2 : w6.cell? ⟨w.heap.size, 2, none⟩ = some _ := (hb6.cell (p := ⟨w.heap.size, 2, none⟩) hz0).trans s2; have t3 : w6.cell? ⟨w.heap.size, 3, none⟩ = some _ := (hb6.cell (p := ⟨w.heap.size, 3, none⟩) hz0).trans s3; have t4 : w6.cell? ⟨w.heap.size + 1, 0, none⟩ = some _ := (hb6.cell (p := ⟨w.heap.size + 1, 0, none⟩) hz1).trans m0; have tz : ∀ j, w6.frozen? ⟨w.heap.size, j, none⟩ = false := fun j => (hb6.frozen (p := ⟨w.heap.size, j, none⟩) hz0).trans (sz j); have tq := hb6.size))
      all_goals
        have O6 := own_below O5.out hb6
        have B6 := bThen BW5.out hb6
        have S6 := heap_below S5.out hb6
        have Z6 := heap_below Z5.out hb6
        have P6 := own_base hown6 (base' := w.heap.size + 1 + 1 + 1) (by have := B5.out.size; simp; omega)
        have S7 := blk_set (blk_set (blk_set S6 3 (.slice A5 ((outTo out st k).length + xl.length) c5)) 1 (.slice A6 (st.length - (k + 1)) c6)) 2 (.int .i64 n)
        have Z7 := (Below.heap_setCell _ ⟨w.heap.size, 2, none⟩ (.int .i64 n) (w.heap.size + 1 + 1) (by simp; try omega)).trans ((Below.heap_setCell _ ⟨w.heap.size, 1, none⟩ (.slice A6 (st.length - (k + 1)) c6) (w.heap.size + 1 + 1) (by simp; try omega)).trans ((Below.heap_setCell w6 ⟨w.heap.size, 3, none⟩ (.slice A5 ((outTo out st k).length + xl.length) c5) (w.heap.size + 1 + 1) (by simp; try omega)).trans Z6))
        have B7 := Lib.hid (((B6.setCell (p := ⟨w.heap.size, 3, none⟩) (Nat.le_refl _) (.slice A5 ((outTo out st k).length + xl.length) c5)).setCell (p := ⟨w.heap.size, 1, none⟩) (Nat.le_refl _) (.slice A6 (st.length - (k + 1)) c6)).setCell (p := ⟨w.heap.size, 2, none⟩) (Nat.le_refl _) (.int .i64 n))
        have hw3 : w.heap.size < w.heap.size + 1 + 1 + 1 := by omega
        have O7 := Lib.hid (own_set (own_set (own_set O6 (p := ⟨w.heap.size, 3, none⟩) hw3 (.slice A5 ((outTo out st k).length + xl.length) c5)) (p := ⟨w.heap.size, 1, none⟩) hw3 (.slice A6 (st.length - (k + 1)) c6)) (p := ⟨w.heap.size, 2, none⟩) hw3 (.int .i64 n))
        have P7 := Lib.hid (own_set (own_set (own_set P6 (p := ⟨w.heap.size, 3, none⟩) hw3 (.slice A5 ((outTo out st k).length + xl.length) c5)) (p := ⟨w.heap.size, 1, none⟩) hw3 (.slice A6 (st.length - (k + 1)) c6)) (p := ⟨w.heap.size, 2, none⟩) hw3 (.int .i64 n))
        simp at S7
        clear O6 B6 S6 Z6 P6 t0 t1 t2 t3 t4 tz tq hb6 hb6' hown6 S5 Z5 BW5 O5 B5 s0 s1 s2 s3 sz hz0 hz2 m0 hz1 q0 xz X5 N1r RD
        generalize ((w6.setCell ⟨w.heap.size, 3, none⟩ (.slice A5 ((outTo out st k).length + xl.length) c5)).setCell ⟨w.heap.size, 1, none⟩ (.slice A6 (st.length - (k + 1)) c6)).setCell ⟨w.heap.size, 2, none⟩ (.int .i64 n) = W7 at *
        have s0 := cellsAt S7 0
        have s1 := cellsAt S7 1
        have s2 := cellsAt S7 2
        have s3 := cellsAt S7 3
        have d0 := cellsAt Z7 0
        have d1 := cellsAt Z7 1
        have d2 := cellsAt Z7 2
        have d3 := cellsAt Z7 3
        have dz := frozAt Z7
        have hz0 := blk_lt S7
        have hz2 := blk_lt Z7
        simp at s0 s1 s2 s3 d0 d1 d2 d3
        go_wp2_with fail
        have E := set4 Z7 (.slice A1 op.length c1) (.slice A6 (st.length - (k + 1)) c6) (.int .i64 n) (.slice A5 ((outTo out st k).length + xl.length) c5)
        have BE := Lib.hid (bel4 B7.out (g := w.heap.size + 1 + 1) (by omega) (.slice A1 op.length c1) (.slice A6 (st.length - (k + 1)) c6) (.int .i64 n) (.slice A5 ((outTo out st k).length + xl.length) c5))
        have hw4 : w.heap.size + 1 + 1 < w.heap.size + 1 + 1 + 1 := by omega
        have OE := Lib.hid (own_set (own_set (own_set (own_set O7.out (p := ⟨w.heap.size + 1 + 1, 0, none⟩) hw4 (.slice A1 op.length c1)) (p := ⟨w.heap.size + 1 + 1, 1, none⟩) hw4 (.slice A6 (st.length - (k + 1)) c6)) (p := ⟨w.heap.size + 1 + 1, 2, none⟩) hw4 (.int .i64 n)) (p := ⟨w.heap.size + 1 + 1, 3, none⟩) hw4 (.slice A5 ((outTo out st k).length + xl.length) c5))
        have PE := Lib.hid (own_set (own_set (own_set (own_set P7.out (p := ⟨w.heap.size + 1 + 1, 0, none⟩) hw4 (.slice A1 op.length c1)) (p := ⟨w.heap.size + 1 + 1, 1, none⟩) hw4 (.slice A6 (st.length - (k + 1)) c6)) (p := ⟨w.heap.size + 1 + 1, 2, none⟩) hw4 (.int .i64 n)) (p := ⟨w.heap.size + 1 + 1, 3, none⟩) hw4 (.slice A5 ((outTo out st k).length + xl.length) c5))
        clear d0 d1 d2 d3 dz s0 s1 s2 s3 S7 Z7 O7 P7 B7
        generalize ((((W7.setCell ⟨w.heap.size + 1 + 1, 0, none⟩ (.slice A1 op.length c1)).setCell ⟨w.heap.size + 1 + 1, 1, none⟩ (.slice A6 (st.length - (k + 1)) c6)).setCell ⟨w.heap.size + 1 + 1, 2, none⟩ (.int .i64 n)).setCell ⟨w.heap.size + 1 + 1, 3, none⟩ (.slice A5 ((outTo out st k).length + xl.length) c5)) = W8 at *
        have e0 := cellsAt E 0
        have e1 := cellsAt E 1
        have e2 := cellsAt E 2
        have e3 := cellsAt E 3
        simp at e0 e1 e2 e3
        try rw [Exit.noGoto_ret]
        have hox := outTo_succ (out := out) HIx.out
        have LP : ∀ u, SrcV w W8 u (.slice A6 (st.length - (k + 1)) c6) := fun u => by
          have h := PE.out
          rw [List.length_drop] at h
          refine src_own h ?_
          omega
        have LO : ∀ u, SrcV w W8 u (.slice A5 ((outTo out st k).length + xl.length) c5) := fun u => by
          refine src_own OE.out ?_
          omega
        refine bodyPost_ret (v := .tuple #[.agg #[.slice A1 op.length c1, .slice A6 (st.length - (k + 1)) c6, .int .i64 n, .slice A5 ((outTo out st k).length + xl.length) c5], .int .i64 0]) (by simp [results, Try.results38, go_sem, e0, e1, e2, e3]) rfl ⟨⟨_, rfl, ?_, ⟨_, _, _, _, _, _, _, _, rfl, rfl, .inl rfl, LP _, LO _⟩⟩, BE.out⟩
        rw [hpos]
        refine ⟨_, _, _, rfl, R1.out.below BE.out, ⟨Row.of_own Stg.cs_len (by rw [List.length_drop] at PE; exact PE.out) (by rw [List.length_drop]), fun x hx => (R2.out.2.1 x (List.mem_of_mem_drop hx)).below BE.out, by rw [List.length_drop]; unfold maxLen; omega⟩, HN.out, ⟨Row.of_own Res.cs_len (n := (outTo out st k).length + xl.length) (by show W8.ownsRow _ _ _ _ _ ((outTo out st (k + 1)).flatMap Res.cs); rw [hox, List.flatMap_append]; exact OE.out) (by show _ = (outTo out st (k + 1)).length; rw [hox, List.length_append]), outTo_wf R3.out R2.out.2.1 (k + 1), by show (outTo out st (k + 1)).length ≤ _; rw [hox, List.length_append]; unfold maxLen; simp only; omega⟩⟩
end Go.Proofs.Ytenpgkkefielfaa
