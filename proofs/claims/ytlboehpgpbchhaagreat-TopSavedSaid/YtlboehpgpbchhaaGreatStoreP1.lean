/-
  PLAIN: the order of texts; cells; what it is for a cell to come to count.
-/
import Derived.Test.YtlboehpgpbchhaaGreatRowsK
import Derived.Lib.Bytealg
set_option linter.unusedVariables false
set_option linter.unusedSimpArgs false
namespace Go.Proofs.YtlboehpgpbchhaaGreat
open Go.RowKit

/-! ### texts -/
theorem bl_irr : ∀ a : List UInt8, Op.bytesLess a a = false
  | [] => rfl
  | x :: a => by simp [Op.bytesLess, UInt8.lt_irrefl, bl_irr a]
theorem bl_trans : ∀ {a b c : List UInt8}, Op.bytesLess a b = true → Op.bytesLess b c = true → Op.bytesLess a c = true
  | a, [], _, h, _ => by cases a <;> simp [Op.bytesLess] at h
  | _, _ :: _, [], _, h => by simp [Op.bytesLess] at h
  | [], _ :: _, _ :: _, _, _ => rfl
  | x :: a, y :: b, z :: c, h, k => by
    simp only [Op.bytesLess, Bool.or_eq_true, Bool.and_eq_true, decide_eq_true_eq, beq_iff_eq] at h k ⊢
    rcases h with h | ⟨rfl, h⟩
    · rcases k with k | ⟨rfl, k⟩
      · exact .inl (UInt8.lt_trans h k)
      · exact .inl h
    · rcases k with k | ⟨rfl, k⟩
      · exact .inl k
      · exact .inr ⟨rfl, bl_trans h k⟩
theorem bl_tot : ∀ {a b : List UInt8}, Op.bytesLess a b = false → Op.bytesLess b a = false → a = b
  | [], [], _, _ => rfl
  | [], _ :: _, h, _ => by simp [Op.bytesLess] at h
  | _ :: _, [], _, k => by simp [Op.bytesLess] at k
  | x :: a, y :: b, h, k => by
    simp only [Op.bytesLess, Bool.or_eq_false_iff, decide_eq_false_iff_not] at h k
    have hxy : x = y := UInt8.le_antisymm (UInt8.not_lt.1 k.1) (UInt8.not_lt.1 h.1)
    subst hxy
    have h2 := h.2
    have k2 := k.2
    simp at h2 k2
    rw [bl_tot h2 k2]
theorem cb_lt : ∀ a b : List UInt8, (Lib.compareBytes a b < 0) ↔ Op.bytesLess a b = true
  | [], [] => by simp [Lib.compareBytes, Op.bytesLess]
  | [], _ :: _ => by simp [Lib.compareBytes, Op.bytesLess]
  | _ :: _, [] => by simp [Lib.compareBytes, Op.bytesLess]
  | x :: a, y :: b => by
    have ih := cb_lt a b
    unfold Lib.compareBytes Op.bytesLess
    by_cases h : x < y
    · simp [h]
    · by_cases k : y < x
      · have hne : x ≠ y := fun e => by subst e; exact h k
        simp [h, k, hne]
      · have hxy : x = y := UInt8.le_antisymm (UInt8.not_lt.1 k) (UInt8.not_lt.1 h)
        subst hxy
        simp [h, ih]
theorem cb_eq : ∀ a b : List UInt8, (Lib.compareBytes a b = 0) ↔ a = b
  | [], [] => by simp [Lib.compareBytes]
  | [], _ :: _ => by simp [Lib.compareBytes]
  | _ :: _, [] => by simp [Lib.compareBytes]
  | x :: a, y :: b => by
    have ih := cb_eq a b
    unfold Lib.compareBytes
    by_cases h : x < y
    · have hne : x ≠ y := fun e => by subst e; exact UInt8.lt_irrefl _ h
      simp [h, hne]
    · by_cases k : y < x
      · have hne : x ≠ y := fun e => by subst e; exact h k
        simp [h, k, hne]
      · have hxy : x = y := UInt8.le_antisymm (UInt8.not_lt.1 k) (UInt8.not_lt.1 h)
        subst hxy
        simp [h, ih]
/-- Does a text stand ahead of another? -/
def ltS (a b : ByteArray) : Bool := Op.bytesLess a.toList b.toList
def eqB (a b : ByteArray) : Bool := a.toList == b.toList
theorem bytes_inj' {a b : ByteArray} (h : a.toList = b.toList) : a = b := by
  rw [ByteArray.toList_eq, ByteArray.toList_eq] at h
  cases a; cases b; simp only at h; rw [Array.toList_inj.1 h]
theorem eqB_iff {a b : ByteArray} : eqB a b = true ↔ a = b := by
  unfold eqB
  rw [beq_iff_eq]
  exact ⟨bytes_inj', fun h => by rw [h]⟩
theorem eqB_refl (a : ByteArray) : eqB a a = true := eqB_iff.2 rfl
theorem eqB_no {a b : ByteArray} : eqB a b = false ↔ a ≠ b := by
  rw [← Bool.not_eq_true, eqB_iff]
theorem ltS_irr (a : ByteArray) : ltS a a = false := bl_irr _
theorem ltS_trans {a b c : ByteArray} (h : ltS a b = true) (k : ltS b c = true) : ltS a c = true := bl_trans h k
theorem ltS_tot {a b : ByteArray} (h : ltS a b = false) (k : ltS b a = false) : a = b := bytes_inj' (bl_tot h k)
theorem ltS_asym {a b : ByteArray} (h : ltS a b = true) : ltS b a = false := by
  cases k : ltS b a with
  | false => rfl
  | true => have := ltS_trans h k; rw [ltS_irr] at this; cases this
theorem ltS_ne {a b : ByteArray} (h : ltS a b = true) : a ≠ b := fun e => by subst e; rw [ltS_irr] at h; cases h
theorem leS_eq (a b : ByteArray) : (ltS a b || eqB a b) = !ltS b a := by
  cases h : ltS b a with
  | true =>
    rw [ltS_asym h, eqB_no.2 (fun e => ltS_ne h e.symm)]; rfl
  | false =>
    cases k : ltS a b with
    | true => rfl
    | false => rw [ltS_tot k h, eqB_refl]; rfl
theorem cmpS_lt (a b : ByteArray) : (Lib.compareBytes a.data.toList b.data.toList < 0) ↔ ltS a b = true := by
  unfold ltS; rw [ByteArray.toList_eq, ByteArray.toList_eq]; exact cb_lt _ _
theorem cmpS_eq (a b : ByteArray) : (Lib.compareBytes a.data.toList b.data.toList = 0) ↔ a = b := by
  rw [cb_eq]
  exact ⟨fun h => bytes_inj' (by rw [ByteArray.toList_eq, ByteArray.toList_eq]; exact h), fun h => by rw [h]⟩

/-! ### cells -/
structure Cl where
  n : ByteArray
  b : ByteArray
def Cl.cs (c : Cl) : List Value := [.string c.n, .string c.b]
def Cl.val (c : Cl) : Value := .agg #[.string c.n, .string c.b]
theorem Cl.cs_len (c : Cl) : c.cs.length = 2 := rfl
instance : Inhabited Cl := ⟨⟨⟨#[]⟩, ⟨#[]⟩⟩⟩
def Cl.Ok (c : Cl) : Prop := c.n.size ≤ maxLen ∧ c.b.size ≤ maxLen
def noB (b : ByteArray) : Bool := b.toList.isEmpty
theorem noB_size (b : ByteArray) : noB b = decide (b.size = 0) := by
  unfold noB
  rw [ByteArray.toList_eq, Bool.eq_iff_iff, List.isEmpty_iff_length_eq_zero, decide_eq_true_eq, Array.length_toList]
  rfl
def mayC (c : Cl) : Bool := !noB c.n && (decide (c.n.size ≤ 16) && decide (c.b.size ≤ 4096))
def allC (l : List Cl) : Bool := (List.range l.length).all (fun i => mayC l[i]!)
def okAt (l : List Cl) (i : Nat) : Bool := !noB l[i]!.b && (decide (i = 0) || ltS l[i - 1]!.n l[i]!.n)
def okC (l : List Cl) : Bool := (List.range l.length).all (okAt l)
def rightB (l f : List Cl) : Bool := ((decide (l.length ≤ 64) && allC l) && (decide (f.length ≤ 64) && allC f)) && okC l
/-- Names that rise. -/
def Rise (l : List Cl) : Prop := l.Pairwise (fun x y => ltS x.n y.n = true)
structure RightC (l f : List Cl) : Prop where
  len : l.length ≤ 64
  may : ∀ x ∈ l, mayC x = true
  flen : f.length ≤ 64
  fmay : ∀ x ∈ f, mayC x = true
  some : ∀ x ∈ l, noB x.b = false
  rise : Rise l
theorem allR_iff {α : Type} [Inhabited α] (l : List α) (p : α → Bool) : (List.range l.length).all (fun i => p l[i]!) = true ↔ ∀ x ∈ l, p x = true := by
  rw [List.all_eq_true]
  constructor
  · intro h x hx
    obtain ⟨i, hi⟩ := List.getElem?_of_mem hx
    have := h i (List.mem_range.2 (List.getElem?_eq_some_iff.1 hi).1)
    rw [List.getElem!_eq_getElem?_getD, hi] at this
    exact this
  · intro h i hi
    have hi := List.mem_range.1 hi
    rw [List.getElem!_eq_getElem?_getD, List.getElem?_eq_getElem hi]
    exact h _ (List.getElem_mem hi)
theorem rise_of {l : List Cl} (h : ∀ i, 0 < i → i < l.length → ltS l[i - 1]!.n l[i]!.n = true) : Rise l := by
  have H : ∀ d i, i + d + 1 < l.length → ltS l[i]!.n l[i + d + 1]!.n = true := by
    intro d
    induction d with
    | zero => intro i hi; exact h (i + 1) (by omega) hi
    | succ d ih =>
      intro i hi
      have h1 := ih i (by omega)
      have h2 := h (i + (d + 1) + 1) (by omega) hi
      exact ltS_trans h1 h2
  unfold Rise
  rw [List.pairwise_iff_getElem]
  intro i j hi hj hij
  have := H (j - i - 1) i (by omega)
  rw [show i + (j - i - 1) + 1 = j by omega] at this
  simpa [List.getElem!_eq_getElem?_getD, List.getElem?_eq_getElem, hi, hj] using this
theorem okC_iff (l : List Cl) : okC l = true ↔ (∀ x ∈ l, noB x.b = false) ∧ Rise l := by
  constructor
  · intro h
    unfold okC at h
    rw [List.all_eq_true] at h
    refine ⟨fun x hx => ?_, rise_of fun i h0 hi => ?_⟩
    · obtain ⟨i, hi⟩ := List.getElem?_of_mem hx
      have := h i (List.mem_range.2 (List.getElem?_eq_some_iff.1 hi).1)
      unfold okAt at this
      rw [List.getElem!_eq_getElem?_getD, hi] at this
      simp at this
      exact this.1
    · have := h i (List.mem_range.2 hi)
      unfold okAt at this
      simp only [Bool.and_eq_true, Bool.or_eq_true, decide_eq_true_eq] at this
      exact this.2.resolve_left (by omega)
  · rintro ⟨h1, h2⟩
    unfold okC
    rw [List.all_eq_true]
    intro i hi
    have hi := List.mem_range.1 hi
    unfold okAt
    have e1 : noB l[i]!.b = false := by
      rw [List.getElem!_eq_getElem?_getD, List.getElem?_eq_getElem hi]
      exact h1 _ (List.getElem_mem hi)
    rw [e1]
    by_cases h0 : i = 0
    · simp [h0]
    · have := (List.pairwise_iff_getElem.1 h2) (i - 1) i (by omega) hi (by omega)
      simp only [Bool.not_false, Bool.true_and, Bool.or_eq_true]
      right
      simpa [List.getElem!_eq_getElem?_getD, List.getElem?_eq_getElem, hi, show i - 1 < l.length by omega] using this
theorem right_iff {l f : List Cl} : rightB l f = true ↔ RightC l f := by
  unfold rightB allC
  simp only [Bool.and_eq_true, decide_eq_true_eq, okC_iff]
  rw [allR_iff l mayC, allR_iff f mayC]
  constructor
  · rintro ⟨⟨⟨a, b⟩, c, d⟩, e, f⟩
    exact ⟨a, b, c, d, e, f⟩
  · rintro ⟨a, b, c, d, e, f⟩
    exact ⟨⟨⟨a, b⟩, c, d⟩, e, f⟩
/-! ### to come to count -/
/-- The reference's round: what is there so far, and whether the new cell is laid. -/
def wStep (x : Cl) (s : List Cl × Bool) (c : Cl) : List Cl × Bool :=
  ((if (!s.2 && !ltS c.n x.n) = true then s.1 ++ [x] else s.1) ++ (if eqB c.n x.n = true then [] else [c]), s.2 || !ltS c.n x.n)
def wFold (x : Cl) (l : List Cl) : List Cl × Bool := l.foldl (wStep x) ([], noB x.b)
def wEnd (x : Cl) (s : List Cl × Bool) : List Cl := if s.2 = true then s.1 else s.1 ++ [x]
def withL (l : List Cl) (x : Cl) : List Cl := wEnd x (wFold x l)
def countL (l f : List Cl) : List Cl := f.foldl withL l
theorem fold_lt {x : Cl} : ∀ (A : List Cl) (s : List Cl × Bool), (∀ c ∈ A, ltS c.n x.n = true) → A.foldl (wStep x) s = (s.1 ++ A, s.2)
  | [], s, _ => by simp
  | a :: A, s, h => by
    have h1 := h a (by simp)
    rw [List.foldl_cons, fold_lt A _ (fun c hc => h c (by simp [hc]))]
    have h2 : eqB a.n x.n = false := eqB_no.2 (ltS_ne h1)
    simp [wStep, h1, h2]
theorem fold_put {x : Cl} : ∀ (A : List Cl) (s : List Cl), (∀ c ∈ A, c.n ≠ x.n) → A.foldl (wStep x) (s, true) = (s ++ A, true)
  | [], s, _ => by simp
  | a :: A, s, h => by
    have h2 : eqB a.n x.n = false := eqB_no.2 (h a (by simp))
    have e : wStep x (s, true) a = (s ++ [a], true) := by simp [wStep, h2]
    rw [List.foldl_cons, e, fold_put A _ (fun c hc => h c (by simp [hc]))]
    simp
/-- Where a name stands, or is to stand. -/
def atS (l : List Cl) (t : ByteArray) (i : Nat) : Prop := (∀ c ∈ l.take i, ltS c.n t = true) ∧ (∀ c ∈ l.drop i, ltS c.n t = false)
def fndS (l : List Cl) (i : Nat) (t : ByteArray) : Bool := match l[i]? with | some x => eqB x.n t | none => false
section
variable {l : List Cl} {x : Cl} {i : Nat}
theorem rise_drop (hs : Rise l) (i : Nat) : Rise (l.drop i) := List.Pairwise.sublist (List.drop_sublist i l) hs
theorem drop_at (h : i < l.length) : l.drop i = l[i] :: l.drop (i + 1) := (List.getElem_cons_drop h).symm
theorem rest_ne (hs : Rise l) (h : atS l x.n i) (hf : fndS l i x.n = true) : ∀ c ∈ l.drop (i + 1), c.n ≠ x.n := by
  unfold fndS at hf
  cases hi : l[i]? with
  | none => rw [hi] at hf; cases hf
  | some y =>
    rw [hi] at hf
    have hy : y.n = x.n := eqB_iff.1 hf
    obtain ⟨h1, h2⟩ := List.getElem?_eq_some_iff.1 hi
    have hd := rise_drop hs i
    rw [drop_at h1, h2] at hd
    intro c hc e
    have := (List.pairwise_cons.1 hd).1 c hc
    rw [hy] at this
    exact ltS_ne this e.symm
theorem with_eq (hs : Rise l) (h : atS l x.n i) (hi : i ≤ l.length) : withL l x =
    l.take i ++ ((if noB x.b = true then [] else [x]) ++ (if fndS l i x.n = true then l.drop (i + 1) else l.drop i)) := by
  unfold withL wFold
  have e : l = l.take i ++ l.drop i := (List.take_append_drop i l).symm
  have e2 : l.foldl (wStep x) ([], noB x.b) = (l.drop i).foldl (wStep x) (l.take i, noB x.b) := by
    conv => lhs; rw [e]
    rw [List.foldl_append, fold_lt _ _ h.1]
    simp
  rw [e2]
  by_cases hlt : i < l.length
  · have hd := drop_at hlt
    have hge : ltS l[i].n x.n = false := h.2 _ (by rw [hd]; exact List.mem_cons_self)
    cases hf : fndS l i x.n with
    | true =>
      have hne := rest_ne hs h hf
      have hq : eqB l[i].n x.n = true := by
        unfold fndS at hf; rw [List.getElem?_eq_getElem hlt] at hf; exact hf
      rw [hd, List.foldl_cons]
      cases hb : noB x.b with
      | true =>
        have e3 : wStep x (l.take i, true) l[i] = (l.take i, true) := by simp [wStep, hq]
        rw [e3, fold_put _ _ hne]
        simp [wEnd]
      | false =>
        have e3 : wStep x (l.take i, false) l[i] = (l.take i ++ [x], true) := by simp [wStep, hq, hge]
        rw [e3, fold_put _ _ hne]
        simp [wEnd]
    | false =>
      have hq : eqB l[i].n x.n = false := by
        unfold fndS at hf; rw [List.getElem?_eq_getElem hlt] at hf; exact hf
      have hlt2 : ltS x.n l[i].n = true := by
        cases k : ltS x.n l[i].n with
        | true => rfl
        | false => exact absurd (ltS_tot hge k) (eqB_no.1 hq)
      have hne : ∀ c ∈ l.drop (i + 1), c.n ≠ x.n := by
        have hr := rise_drop hs i
        rw [hd] at hr
        intro c hc e
        have := ltS_trans hlt2 ((List.pairwise_cons.1 hr).1 c hc)
        exact ltS_ne this e.symm
      cases hb : noB x.b with
      | true =>
        rw [fold_put _ _ (fun c hc => by
          rw [hd] at hc
          rcases List.mem_cons.1 hc with rfl | hc
          · exact eqB_no.1 hq
          · exact hne c hc)]
        simp [wEnd]
      | false =>
        rw [hd, List.foldl_cons]
        have e3 : wStep x (l.take i, false) l[i] = (l.take i ++ [x] ++ [l[i]], true) := by simp [wStep, hq, hge]
        rw [e3, fold_put _ _ hne]
        simp [wEnd]
  · have hd : l.drop i = [] := List.drop_eq_nil_of_le (by omega)
    have hf : fndS l i x.n = false := by unfold fndS; rw [List.getElem?_eq_none (by omega)]
    rw [hd, hf]
    cases hb : noB x.b <;> simp [wEnd]
/-- There is such a place. -/
theorem at_ex (hs : Rise l) (t : ByteArray) : ∃ i, i ≤ l.length ∧ atS l t i := by
  induction l with
  | nil => exact ⟨0, Nat.le_refl _, by simp [atS]⟩
  | cons a l ih =>
    have hc := List.pairwise_cons.1 hs
    cases h : ltS a.n t with
    | true =>
      obtain ⟨i, h1, h2, h3⟩ := ih hc.2
      refine ⟨i + 1, by simpa using h1, ?_, by simpa using h3⟩
      intro c hm
      rw [List.take_succ_cons] at hm
      rcases List.mem_cons.1 hm with rfl | hm
      · exact h
      · exact h2 c hm
    | false =>
      refine ⟨0, Nat.zero_le _, by simp, ?_⟩
      intro c hm
      rw [List.drop_zero] at hm
      rcases List.mem_cons.1 hm with rfl | hm
      · exact h
      · cases k : ltS c.n t with
        | false => rfl
        | true => have := ltS_trans (hc.1 c hm) k; rw [h] at this; cases this
theorem with_mem (hs : Rise l) {c : Cl} (hc : c ∈ withL l x) : (c = x ∧ noB x.b = false) ∨ (c ∈ l ∧ c.n ≠ x.n) := by
  obtain ⟨i, hi, h⟩ := at_ex hs x.n
  rw [with_eq hs h hi] at hc
  rcases List.mem_append.1 hc with hc | hc
  · exact .inr ⟨List.mem_of_mem_take hc, ltS_ne (h.1 c hc)⟩
  · rcases List.mem_append.1 hc with hc | hc
    · cases hb : noB x.b with
      | true => rw [hb] at hc; simp at hc
      | false => rw [hb] at hc; simp at hc; exact .inl ⟨hc, rfl⟩
    · cases hf : fndS l i x.n with
      | true =>
        rw [hf] at hc
        exact .inr ⟨List.mem_of_mem_drop (by simpa using hc), rest_ne hs h hf c (by simpa using hc)⟩
      | false =>
        rw [hf] at hc
        simp at hc
        refine .inr ⟨List.mem_of_mem_drop hc, ?_⟩
        have hlt : i < l.length := by
          rcases Nat.lt_or_ge i l.length with h1 | h1
          · exact h1
          · rw [List.drop_eq_nil_of_le h1] at hc; simp at hc
        have hq : eqB l[i].n x.n = false := by
          unfold fndS at hf; rw [List.getElem?_eq_getElem hlt] at hf; exact hf
        have hd := drop_at hlt
        rw [hd] at hc
        have hge : ltS l[i].n x.n = false := h.2 _ (by rw [hd]; exact List.mem_cons_self)
        rcases List.mem_cons.1 hc with rfl | hc
        · exact eqB_no.1 hq
        · have hr := rise_drop hs i
          rw [hd] at hr
          have h1 := (List.pairwise_cons.1 hr).1 c hc
          intro e
          rw [e] at h1
          rw [ltS_tot hge (ltS_asym h1)] at hq
          rw [eqB_refl] at hq
          cases hq
theorem with_rise (hs : Rise l) : Rise (withL l x) := by
  obtain ⟨i, hi, h⟩ := at_ex hs x.n
  have hsp : Rise (l.take i ++ l.drop i) := by rw [List.take_append_drop]; exact hs
  have hpa := List.pairwise_append.1 hsp
  -- what stands behind the place
  obtain ⟨R, hR⟩ : ∃ R, (if fndS l i x.n = true then l.drop (i + 1) else l.drop i) = R := ⟨_, rfl⟩
  have hsub : R.Sublist (l.drop i) := by
    rw [← hR]
    split
    · rw [show l.drop (i + 1) = (l.drop i).drop 1 by rw [List.drop_drop]]
      exact List.drop_sublist _ _
    · exact List.Sublist.refl _
  have hgt : ∀ c ∈ R, ltS x.n c.n = true := by
    intro c hc
    have hge := h.2 c (hsub.subset hc)
    have hne : c.n ≠ x.n := by
      have hm : c ∈ withL l ⟨x.n, ⟨#[]⟩⟩ := by
        rw [with_eq (x := ⟨x.n, ⟨#[]⟩⟩) hs h hi, hR]
        exact List.mem_append_right _ (List.mem_append_right _ hc)
      rcases with_mem hs hm with ⟨-, h0⟩ | ⟨-, h1⟩
      · have h9 : noB (⟨#[]⟩ : ByteArray) = true := by rw [noB_size]; rfl
        rw [show (Cl.mk x.n ⟨#[]⟩).b = ⟨#[]⟩ from rfl, h9] at h0
        cases h0
      · exact h1
    cases k : ltS x.n c.n with
    | true => rfl
    | false => exact absurd (ltS_tot hge k) hne
  rw [with_eq hs h hi, hR]
  unfold Rise
  rw [List.pairwise_append]
  refine ⟨hpa.1, ?_, ?_⟩
  · rw [List.pairwise_append]
    refine ⟨by split <;> simp, hpa.2.1.sublist hsub, ?_⟩
    intro a ha b hb
    split at ha
    · simp at ha
    · simp at ha; subst ha; exact hgt b hb
  · intro a ha b hb
    rcases List.mem_append.1 hb with hb | hb
    · split at hb
      · simp at hb
      · simp at hb; subst hb; exact h.1 a ha
    · exact hpa.2.2 a ha b (hsub.subset hb)
theorem with_len (hs : Rise l) : (withL l x).length ≤ l.length + 1 := by
  obtain ⟨i, hi, h⟩ := at_ex hs x.n
  rw [with_eq hs h hi]
  simp only [List.length_append, List.length_take]
  split <;> split <;> simp <;> omega
end
/-- Cells that may count. -/
structure Good (l : List Cl) : Prop where
  may : ∀ x ∈ l, mayC x = true
  some : ∀ x ∈ l, noB x.b = false
  rise : Rise l
theorem Good.nil : Good [] := ⟨by simp, by simp, List.Pairwise.nil⟩
theorem Good.with_ {l : List Cl} {x : Cl} (h : Good l) (hx : mayC x = true) : Good (withL l x) := by
  refine ⟨fun c hc => ?_, fun c hc => ?_, with_rise h.rise⟩
  · rcases with_mem h.rise hc with ⟨rfl, _⟩ | ⟨hc, _⟩
    · exact hx
    · exact h.may c hc
  · rcases with_mem h.rise hc with ⟨rfl, hb⟩ | ⟨hc, _⟩
    · exact hb
    · exact h.some c hc
theorem Good.count {f : List Cl} : ∀ {l : List Cl}, Good l → (∀ x ∈ f, mayC x = true) → Good (countL l f) := by
  induction f with
  | nil => intro l h _; exact h
  | cons a f ih => intro l h hf; exact ih (h.with_ (hf a (by simp))) (fun x hx => hf x (by simp [hx]))
theorem count_rise {f : List Cl} : ∀ {l : List Cl}, Rise l → Rise (countL l f) := by
  induction f with
  | nil => intro l h; exact h
  | cons a f ih => intro l h; exact ih (with_rise h)
theorem count_len {f : List Cl} : ∀ {l : List Cl}, Rise l → (countL l f).length ≤ l.length + f.length := by
  induction f with
  | nil => intro l _; simp [countL]
  | cons a f ih =>
    intro l h
    have h1 := ih (with_rise (x := a) h)
    have h2 := with_len (x := a) h
    simp only [countL, List.foldl_cons, List.length_cons] at h1 ⊢
    omega
theorem count_snoc (l f : List Cl) (x : Cl) : countL l (f ++ [x]) = withL (countL l f) x := by
  simp [countL]
theorem RightC.good {l f : List Cl} (h : RightC l f) : Good l := ⟨h.may, h.some, h.rise⟩
theorem right_of {l f : List Cl} (h : Good l) (hl : l.length ≤ 64) (hf : f.length ≤ 64) (hm : ∀ x ∈ f, mayC x = true) : RightC l f := ⟨hl, h.may, hf, hm, h.some, h.rise⟩
end Go.Proofs.YtlboehpgpbchhaaGreat
