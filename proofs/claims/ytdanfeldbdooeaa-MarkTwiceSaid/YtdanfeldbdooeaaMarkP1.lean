/-
  PLAIN: what Hold and Free make of holds.
-/
import Derived.Test.YtdanfeldbdooeaaMarkW13
import Derived.Test.YtdanfeldbdooeaaDelHold
set_option linter.unusedVariables false
set_option linter.unusedSimpArgs false
namespace Go.Proofs.Ytdanfeldbdooeaa
open Go.RowKit

/-- Holds with one more, or another, at its place. -/
def putH (l : List Hld) (no at_ : Int) : List Hld := l.filter (fun x => decide (x.no < no)) ++ ⟨no, clampT at_⟩ :: l.filter (fun x => decide (no < x.no))
def remH (l : List Hld) (no : Int) : List Hld := l.filter (fun x => decide (x.no ≠ no))
def hasH (l : List Hld) (no : Int) : Bool := l.any (fun x => x.no == no)
theorem holdsB_at {l : List Hld} (h : holdsB l = true) {k : Nat} (hk : k < l.length) : holdAt l k = true := by
  unfold holdsB at h
  rw [List.all_eq_true] at h
  exact h k (List.mem_range.2 hk)
theorem getH_bang {l : List Hld} {k : Nat} {x : Hld} (h : l[k]? = some x) : l[k]! = x := by rw [List.getElem!_eq_getElem?_getD, h]; rfl
theorem srt_of {l : List Hld} (h : holdsB l = true) : srtH l := by
  have step : ∀ (k : Nat) (x y : Hld), l[k]? = some x → l[k + 1]? = some y → x.no < y.no := by
    intro k x y hx hy
    have := holdsB_at h (List.getElem?_eq_some_iff.1 hy).1
    unfold holdAt at this
    rw [getH_bang hy, show k + 1 - 1 = k from rfl, getH_bang hx] at this
    simp at this
    exact this.2.2
  have go : ∀ (d a : Nat) (x y : Hld), l[a]? = some x → l[a + d + 1]? = some y → x.no < y.no := by
    intro d
    induction d with
    | zero => intro a x y hx hy; exact step a x y hx hy
    | succ d ih =>
      intro a x y hx hy
      have hlt := (List.getElem?_eq_some_iff.1 hy).1
      obtain ⟨z, hz⟩ : ∃ z, l[a + d + 1]? = some z := ⟨_, List.getElem?_eq_getElem (by omega)⟩
      have h1 := ih a x z hx hz
      have h2 := step (a + d + 1) z y hz (by rw [show a + d + 1 + 1 = a + (d + 1) + 1 by omega]; exact hy)
      omega
  intro a b x y hab hx hy
  exact go (b - a - 1) a x y hx (by rw [show a + (b - a - 1) + 1 = b by omega]; exact hy)
theorem right_holds {li : List Inp} {lh : List Hld} {o : Int} (h : rightM li lh o = true) : holdsB lh = true ∧ lh.length ≤ 32 ∧ 1 ≤ li.length ∧ li.length ≤ 8 ∧ timeB o = true ∧ inputsB li = true := by
  unfold rightM at h
  simp only [Bool.and_eq_true, decide_eq_true_eq] at h
  exact ⟨h.2.1, h.1.2.2.1, h.1.1, h.1.2.1, h.1.2.2.2, h.2.2⟩
theorem filter_all {α : Type} (p : α → Bool) {l : List α} (h : ∀ x ∈ l, p x = true) : l.filter p = l := List.filter_eq_self.2 h
theorem filter_none {α : Type} (p : α → Bool) {l : List α} (h : ∀ x ∈ l, p x = false) : l.filter p = [] := List.filter_eq_nil_iff.2 (fun x hx => by rw [h x hx]; simp)
section
variable {l : List Hld} {t : Int} {i : Nat}
theorem at_take (h : atH l t i) : ∀ x ∈ l.take i, x.no < t := by
  intro x hx
  obtain ⟨a, ha⟩ := List.mem_iff_getElem?.1 hx
  rw [List.getElem?_take] at ha
  split at ha
  · exact h.1 a x (by assumption) ha
  · cases ha
theorem at_drop (h : atH l t i) : ∀ x ∈ l.drop i, t ≤ x.no := by
  intro x hx
  obtain ⟨a, ha⟩ := List.mem_iff_getElem?.1 hx
  rw [List.getElem?_drop] at ha
  exact h.2 (i + a) x (by omega) ha
theorem at_lt (h : atH l t i) : l.filter (fun x => decide (x.no < t)) = l.take i := by
  conv => lhs; rw [← List.take_append_drop i l]
  rw [List.filter_append, filter_all _ (fun x hx => by simpa using at_take h x hx), filter_none _ (fun x hx => by have := at_drop h x hx; simpa using this), List.append_nil]
/-- It is there. -/
theorem at_yes (h : atH l t i) (hs : srtH l) (hf : fndH l i t = true) : ∃ x, l[i]? = some x ∧ x.no = t ∧ l.filter (fun x => decide (t < x.no)) = l.drop (i + 1) ∧ l.filter (fun x => decide (x.no ≠ t)) = l.take i ++ l.drop (i + 1) ∧ hasH l t = true := by
  unfold fndH at hf
  cases hx : l[i]? with
  | none => rw [hx] at hf; simp at hf
  | some x =>
    rw [hx] at hf
    have hxt : x.no = t := by simpa using hf
    have hd : l.drop i = x :: l.drop (i + 1) := by
      have hlt := (List.getElem?_eq_some_iff.1 hx).1
      rw [List.drop_eq_getElem_cons hlt]
      rw [List.getElem?_eq_getElem hlt] at hx
      injection hx with hx
      rw [hx]
    have hg : ∀ y ∈ l.drop (i + 1), t < y.no := by
      intro y hy
      obtain ⟨a, ha⟩ := List.mem_iff_getElem?.1 hy
      rw [List.getElem?_drop] at ha
      have := hs i (i + 1 + a) x y (by omega) hx ha
      omega
    refine ⟨x, rfl, hxt, ?_, ?_, ?_⟩
    · conv => lhs; rw [← List.take_append_drop i l]
      rw [hd, List.filter_append, filter_none _ (fun y hy => by have := at_take h y hy; simp; omega), List.nil_append, List.filter_cons, if_neg (by simp; omega), filter_all _ (fun y hy => by simpa using hg y hy)]
    · conv => lhs; rw [← List.take_append_drop i l]
      rw [hd, List.filter_append, filter_all _ (fun y hy => by have := at_take h y hy; simp; omega), List.filter_cons, if_neg (by simp; omega), filter_all _ (fun y hy => by have := hg y hy; simp; omega)]
    · unfold hasH
      rw [List.any_eq_true]
      exact ⟨x, List.mem_of_getElem? hx, by simpa using hxt⟩
/-- It is not there. -/
theorem at_no (h : atH l t i) (hs : srtH l) (hf : fndH l i t = false) : l.filter (fun x => decide (t < x.no)) = l.drop i ∧ l.filter (fun x => decide (x.no ≠ t)) = l ∧ hasH l t = false := by
  have hne : ∀ x ∈ l, x.no ≠ t := by
    intro x hx e
    obtain ⟨a, ha⟩ := List.mem_iff_getElem?.1 hx
    rcases Nat.lt_trichotomy a i with h1 | h1 | h1
    · have := h.1 a x h1 ha; omega
    · subst h1
      unfold fndH at hf
      rw [ha] at hf
      simp at hf
      exact hf e
    · obtain ⟨y, hy⟩ : ∃ y, l[i]? = some y := ⟨_, List.getElem?_eq_getElem (by have := (List.getElem?_eq_some_iff.1 ha).1; omega)⟩
      have h2 := hs i a y x h1 hy ha
      have h3 := h.2 i y (Nat.le_refl _) hy
      omega
  refine ⟨?_, filter_all _ (fun x hx => by simpa using hne x hx), ?_⟩
  · conv => lhs; rw [← List.take_append_drop i l]
    rw [List.filter_append, filter_none _ (fun x hx => by have := at_take h x hx; simp; omega), List.nil_append]
    exact filter_all _ (fun x hx => by have h1 := at_drop h x hx; have h2 := hne x (List.mem_of_mem_drop hx); simp; omega)
  · unfold hasH
    rw [Bool.eq_false_iff]
    intro hc
    rw [List.any_eq_true] at hc
    obtain ⟨x, hx, h1⟩ := hc
    exact hne x hx (by simpa using h1)
theorem put_yes (h : atH l t i) (hs : srtH l) (hf : fndH l i t = true) (at_ : Int) : putH l t at_ = l.set i ⟨t, clampT at_⟩ ∧ (putH l t at_).length = l.length := by
  obtain ⟨x, hx, -, hd, -, -⟩ := at_yes h hs hf
  have hlt := (List.getElem?_eq_some_iff.1 hx).1
  have he : putH l t at_ = l.set i ⟨t, clampT at_⟩ := by
    unfold putH
    rw [at_lt h, hd, List.set_eq_take_append_cons_drop, if_pos hlt]
  exact ⟨he, by rw [he, List.length_set]⟩
theorem put_no (h : atH l t i) (hs : srtH l) (hf : fndH l i t = false) (at_ : Int) : putH l t at_ = l.take i ++ ⟨t, clampT at_⟩ :: l.drop i ∧ (putH l t at_).length = l.length + 1 := by
  obtain ⟨hd, -, -⟩ := at_no h hs hf
  have he : putH l t at_ = l.take i ++ ⟨t, clampT at_⟩ :: l.drop i := by
    unfold putH
    rw [at_lt h, hd]
  refine ⟨he, ?_⟩
  rw [he]
  conv => rhs; rw [← List.take_append_drop i l]
  simp only [List.length_append, List.length_cons]
  omega
end
theorem flat_take (l : List Hld) (i : Nat) : (l.flatMap Hld.cs).take (i * 2) = (l.take i).flatMap Hld.cs := by
  induction l generalizing i with
  | nil => simp
  | cons x l ih =>
    cases i with
    | zero => simp
    | succ i =>
      rw [List.flatMap_cons, List.take_succ_cons, List.flatMap_cons, ← ih i]
      rw [show (i + 1) * 2 = x.cs.length + i * 2 by rw [Hld.cs_len]; omega, List.take_length_add_append]
theorem flat_drop (l : List Hld) (i : Nat) : (l.flatMap Hld.cs).drop (i * 2) = (l.drop i).flatMap Hld.cs := by
  induction l generalizing i with
  | nil => simp
  | cons x l ih =>
    cases i with
    | zero => simp
    | succ i =>
      rw [List.flatMap_cons, List.drop_succ_cons, ← ih i]
      rw [show (i + 1) * 2 = x.cs.length + i * 2 by rw [Hld.cs_len]; omega, List.drop_length_add_append]
/-- What the calls answer. -/
structure Mks where
  (li : List Inp) (lh : List Hld) (o er : Int)
def mkZ (er : Int) : Mks := ⟨[], [], 0, er⟩
def inM (li : List Inp) (lh : List Hld) (o i : Int) : Bool := rightM li lh o && (decide (0 ≤ i) && decide (i < li.length))
def setM (li : List Inp) (lh : List Hld) (o i t : Int) : Mks := if inM li lh o i = true then ⟨li.set i.toNat ⟨max li[i.toNat]!.mark (clampT t), false⟩, lh, o, 0⟩ else mkZ 1
def idleM (li : List Inp) (lh : List Hld) (o i : Int) : Mks := if inM li lh o i = true then ⟨li.set i.toNat ⟨li[i.toNat]!.mark, true⟩, lh, o, 0⟩ else mkZ 1
def holdM (li : List Inp) (lh : List Hld) (o no t : Int) : Mks := if (rightM li lh o && decide (0 ≤ no)) = true then (if (putH lh no t).length ≤ 32 then ⟨li, putH lh no t, o, 0⟩ else mkZ 3) else mkZ 1
def freeM (li : List Inp) (lh : List Hld) (o no : Int) : Mks := if (rightM li lh o && hasH lh no) = true then ⟨li, remH lh no, o, 0⟩ else mkZ 1
def MksTo (m : Mks) (w : World) (e : Ending) (w' : World) : Prop := MkTo m.li m.lh m.o m.er w e w'
theorem own_updH {W : World} {base b3 n q3 : Nat} {lh : List Hld} (h : W.ownsRow base 47 2 (.slice (some ⟨b3, 0, none⟩) n q3) n (lh.flatMap Hld.cs)) {i : Nat} {x : Hld} (hx : lh[i]? = some x) (m d : Int) :
    ((W.setCell ⟨b3, i * 2, none⟩ (.int .i64 m)).setCell ⟨b3, i * 2 + 1, none⟩ (.int .i64 d)).ownsRow base 47 2 (.slice (some ⟨b3, 0, none⟩) n q3) n ((lh.set i ⟨m, d⟩).flatMap Hld.cs) := by
  have h1 := (h.stored (i * 2 + 0) (.int .i64 m)).1
  rw [flat_set Hld.cs_len (x' := ⟨m, x.at_⟩) hx (by decide) rfl] at h1
  have h2 := (h1.stored (i * 2 + 1) (.int .i64 d)).1
  have hx2 : (lh.set i ⟨m, x.at_⟩)[i]? = some ⟨m, x.at_⟩ := by rw [List.getElem?_set_self (List.getElem?_eq_some_iff.1 hx).1]
  rw [flat_set Hld.cs_len (x' := ⟨m, d⟩) hx2 (by decide) rfl, List.set_set] at h2
  exact h2
theorem setC3 {w1 : World} {g : Nat} {x0 x1 x2 : Value} {T : TypeId} (h : w1.heap[g]? = some (.cells #[x0, x1, x2] T (0, 0))) (a b c : Value) :
    (((w1.setCell ⟨g, 0, none⟩ a).setCell ⟨g, 1, none⟩ b).setCell ⟨g, 2, none⟩ c).heap[g]? = some (.cells #[a, b, c] T (0, 0)) := by
  have := blk_set (blk_set (blk_set h 0 a) 1 b) 2 c
  simpa using this
theorem belC3 {w w1 : World} {n : Nat} (B : Below n w w1) {g : Nat} (hg : n ≤ g) (a b c : Value) :
    Below n w (((w1.setCell ⟨g, 0, none⟩ a).setCell ⟨g, 1, none⟩ b).setCell ⟨g, 2, none⟩ c) :=
  ((B.setCell (p := ⟨g, 0, none⟩) hg a).setCell (p := ⟨g, 1, none⟩) hg b).setCell (p := ⟨g, 2, none⟩) hg c
theorem ownC3 {w1 : World} {base : Nat} {e : TypeId} {size n : Nat} {v : Value} {xs : List Value} (h : w1.ownsRow base e size v n xs) {g : Nat} (hg : g < base) (a b c : Value) :
    (((w1.setCell ⟨g, 0, none⟩ a).setCell ⟨g, 1, none⟩ b).setCell ⟨g, 2, none⟩ c).ownsRow base e size v n xs :=
  own_set (own_set (own_set h (p := ⟨g, 0, none⟩) hg a) (p := ⟨g, 1, none⟩) hg b) (p := ⟨g, 2, none⟩) hg c
theorem blkC3 (w1 : World) (g k : Nat) (hk : k ≠ g) (a b c : Value) :
    (((w1.setCell ⟨g, 0, none⟩ a).setCell ⟨g, 1, none⟩ b).setCell ⟨g, 2, none⟩ c).heap[k]? = w1.heap[k]? := by
  have h1 : ∀ (w : World) (j : Nat) (u : Value), (w.setCell ⟨g, j, none⟩ u).heap[k]? = w.heap[k]? := fun w j u => Below.heap_setCell w ⟨g, j, none⟩ u k hk
  rw [h1, h1, h1]
/-- What Insert and Delete make of the box, the zero box and the two rows. -/
def HrAt (w : World) (cs cz : Array Value) (vi : Value) (li : List Inp) (n : Nat) (lh : List Hld) (e : Ending) (w9 : World) : Prop :=
  ∃ A5 c5, e = .returned (.slice A5 n c5) ∧ w9.heap[w.heap.size]? = some (.cells cs 25 (0, 0)) ∧ w9.heap[w.heap.size + 1]? = some (.cells cz 25 (0, 0)) ∧ w9.ownsRow (w.heap.size + 2) 45 2 vi li.length (li.flatMap Inp.cs) ∧ w9.ownsRow (w.heap.size + 2) 47 2 (.slice A5 n c5) n (lh.flatMap Hld.cs) ∧ Below w.heap.size w w9
theorem HrAt.of {w W w9 : World} {cs cz : Array Value} {vi v4 v9 : Value} {li : List Inp} {n m : Nat} {lh : List Hld} {xs : List Value} (hs : W.heap[w.heap.size]? = some (.cells cs 25 (0, 0))) (hz : W.heap[w.heap.size + 1]? = some (.cells cz 25 (0, 0)))
    (hoi : W.ownsRow (w.heap.size + 2) 45 2 vi li.length (li.flatMap Inp.cs)) (hoh : W.ownsRow (w.heap.size + 2) 47 2 v4 m xs) (hb : Below w.heap.size w W)
    (hown : w9.ownsRow (w.heap.size + 2) 47 2 v9 n (lh.flatMap Hld.cs)) (hgr : W.grownBy w9 v4.ownBlock) : HrAt w cs cz vi li n lh (.returned v9) w9 := by
  obtain ⟨A5, c5, rfl⟩ := own_slice hown
  have hlow : ∀ k, k < w.heap.size + 2 → k < W.heap.size → w9.heap[k]? = W.heap[k]? := fun k h1 h2 => hgr.block k h2 (fun e => by have := (hoh.lt k e.symm).1; omega)
  refine ⟨A5, c5, rfl, (hlow _ (by omega) (blk_lt hs)).trans hs, (hlow _ (by omega) (blk_lt hz)).trans hz, own_keep hoi (fun k hk => hgr.block k (hoi.lt k hk).2 (fun e => ?_)), hown, Below.grown hb hgr hb.size (fun q hq => by have := (hoh.lt q hq).1; omega)⟩
  rcases own_ne hoi hoh (by decide) with h | h
  · rw [h] at hk; cases hk
  · exact h (hk.trans e)
theorem ins_at {w W : World} {cs cz : Array Value} {vi v4 : Value} {li : List Inp} {lh : List Hld} (hs : W.heap[w.heap.size]? = some (.cells cs 25 (0, 0))) (hz : W.heap[w.heap.size + 1]? = some (.cells cz 25 (0, 0)))
    (hoi : W.ownsRow (w.heap.size + 2) 45 2 vi li.length (li.flatMap Inp.cs)) (hoh : W.ownsRow (w.heap.size + 2) 47 2 v4 lh.length (lh.flatMap Hld.cs)) (hb : Below w.heap.size w W)
    (i : Nat) (hi : i ≤ lh.length) (h32 : lh.length ≤ 1000000) (no a : Int) (vb : Nat) (TX : TypeId) (hne : v4.ownBlock ≠ some vb) (hv : W.heap[vb]? = some (.cells #[.int .i64 no, .int .i64 a] TX (0, 0))) :
    Calls Try.prog 50 #[v4, .int .i64 i, .slice (some ⟨vb, 0, none⟩) 1 1] W (HrAt w cs cz vi li (lh.length + 1) (lh.take i ++ (⟨no, a⟩ : Hld) :: lh.drop i)) := by
  refine (hiinsert (w.heap.size + 2) lh.length i vb v4 _ [.int .i64 no, .int .i64 a] TX W hoh (by have := blk_lt hz; omega) h32 hi hne hv rfl Hld.cs_one (by intro u hu; simp at hu; rcases hu with rfl | rfl <;> rfl)).mono ?_
  rintro e w9 ⟨v', rfl, hown, hgr⟩
  refine HrAt.of hs hz hoi hoh hb ?_ hgr
  rw [flat_take, flat_drop] at hown
  rw [List.flatMap_append, List.flatMap_cons]
  exact hown
theorem del_at {w W : World} {cs cz : Array Value} {vi v4 : Value} {li : List Inp} {lh : List Hld} {m : Nat} (hs : W.heap[w.heap.size]? = some (.cells cs 25 (0, 0))) (hz : W.heap[w.heap.size + 1]? = some (.cells cz 25 (0, 0)))
    (hoi : W.ownsRow (w.heap.size + 2) 45 2 vi li.length (li.flatMap Inp.cs)) (hoh : W.ownsRow (w.heap.size + 2) 47 2 v4 lh.length (lh.flatMap Hld.cs)) (hb : Below w.heap.size w W)
    (hm : lh.length = m + 1) (i : Nat) (hi : i ≤ m) :
    Calls Try.prog 51 #[v4, .int .i64 i, .int .i64 ((i : Int) + 1)] W (HrAt w cs cz vi li m (lh.take i ++ lh.drop (i + 1))) := by
  rw [hm] at hoh
  refine (hidelete (w.heap.size + 2) m i v4 _ W hoh hi Hld.cs_one).mono ?_
  rintro e w9 ⟨v', rfl, hown, hgr⟩
  refine HrAt.of hs hz hoi hoh hb ?_ hgr
  rw [flat_take, flat_drop] at hown
  rw [List.flatMap_append]
  exact hown
end Go.Proofs.Ytdanfeldbdooeaa
