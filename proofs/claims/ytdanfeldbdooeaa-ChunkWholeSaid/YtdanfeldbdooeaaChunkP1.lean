/-
  PLAIN: what Take makes of chunks that came.
-/
import Derived.Test.YtdanfeldbdooeaaChunkW8
import Derived.Test.YtdanfeldbdooeaaInsChunk
set_option linter.unusedVariables false
set_option linter.unusedSimpArgs false
namespace Go.Proofs.Ytdanfeldbdooeaa
open Go.RowKit

theorem cks_at {g o : Int} {l : List Ck} (h : cksB g o l = true) {k : Nat} (hk : k < l.length) : ckAt g o l k = true := List.all_eq_true.1 h k (List.mem_range.2 hk)
theorem srtC_of {g o : Int} {l : List Ck} (h : cksB g o l = true) : srtC l := by
  have step : ∀ (k : Nat) (x y : Ck), l[k]? = some x → l[k + 1]? = some y → x.no < y.no := by
    intro k x y hx hy
    have := cks_at h (List.getElem?_eq_some_iff.1 hy).1
    unfold ckAt at this
    rw [ckAt_get hy, show k + 1 - 1 = k from rfl, ckAt_get hx] at this
    simp at this
    exact this.2.2.2
  have go : ∀ (d a : Nat) (x y : Ck), l[a]? = some x → l[a + d + 1]? = some y → x.no < y.no := by
    intro d
    induction d with
    | zero => intro a x y hx hy; exact step a x y hx hy
    | succ d ih =>
      intro a x y hx hy
      have hlt := (List.getElem?_eq_some_iff.1 hy).1
      obtain ⟨z, hz⟩ : ∃ z, l[a + d + 1]? = some z := ⟨_, List.getElem?_eq_getElem (by omega)⟩
      have h1 := ih a x z hx hz
      have h2 := step (a + d + 1) z y hz (by rw [show a + d + 1 + 1 = a + (d + 1) + 1 by omega]; exact hy)
      omega
  intro a b x y hab hx hy
  exact go (b - a - 1) a x y hx (by rw [show a + (b - a - 1) + 1 = b by omega]; exact hy)
def putC (l : List Ck) (c : Ck) : List Ck := l.filter (fun x => decide (x.no < c.no)) ++ c :: l.filter (fun x => decide (c.no ≤ x.no))
def getC (l : List Ck) (no : Int) : Option Ck := l.find? (fun x => x.no == no)
section
variable {l : List Ck} {t : Int} {i : Nat}
theorem atC_take (h : atC l t i) : ∀ x ∈ l.take i, x.no < t := by
  intro x hx
  obtain ⟨a, ha⟩ := List.mem_iff_getElem?.1 hx
  rw [List.getElem?_take] at ha
  split at ha
  · exact h.1 a x (by assumption) ha
  · cases ha
theorem atC_drop (h : atC l t i) : ∀ x ∈ l.drop i, t ≤ x.no := by
  intro x hx
  obtain ⟨a, ha⟩ := List.mem_iff_getElem?.1 hx
  rw [List.getElem?_drop] at ha
  exact h.2 (i + a) x (by omega) ha
theorem putC_eq {c : Ck} (h : atC l c.no i) : putC l c = l.take i ++ c :: l.drop i := by
  have e1 : l.filter (fun x => decide (x.no < c.no)) = l.take i := by
    conv => lhs; rw [← List.take_append_drop i l]
    rw [List.filter_append, List.filter_eq_self.2 (fun x hx => by simpa using atC_take h x hx), List.filter_eq_nil_iff.2 (fun x hx => by have := atC_drop h x hx; simpa using this), List.append_nil]
  have e2 : l.filter (fun x => decide (c.no ≤ x.no)) = l.drop i := by
    conv => lhs; rw [← List.take_append_drop i l]
    rw [List.filter_append, List.filter_eq_nil_iff.2 (fun x hx => by have := atC_take h x hx; simpa using this), List.filter_eq_self.2 (fun x hx => by simpa using atC_drop h x hx), List.nil_append]
  unfold putC
  rw [e1, e2]
theorem getC_yes (hs : srtC l) (hf : fndC l i t = true) : ∃ x, l[i]? = some x ∧ x.no = t ∧ getC l t = some x := by
  unfold fndC at hf
  cases hx : l[i]? with
  | none => rw [hx] at hf; simp at hf
  | some x =>
    rw [hx] at hf
    have hxt : x.no = t := by simpa using hf
    refine ⟨x, rfl, hxt, ?_⟩
    unfold getC
    cases hy : l.find? (fun x => x.no == t) with
    | none =>
      have := List.find?_eq_none.1 hy x (List.mem_of_getElem? hx)
      simp at this
      exact absurd hxt this
    | some y =>
      have h1 := List.find?_some hy
      have h2 := List.mem_of_find?_eq_some hy
      simp at h1
      obtain ⟨a, ha⟩ := List.mem_iff_getElem?.1 h2
      rcases Nat.lt_trichotomy a i with h | h | h
      · have := hs a i y x h ha hx; omega
      · subst h; rw [hx] at ha; exact ha.symm
      · have := hs i a x y h hx ha; omega
theorem getC_no (h : atC l t i) (hs : srtC l) (hf : fndC l i t = false) : getC l t = none := by
  unfold getC
  rw [List.find?_eq_none]
  intro x hx
  simp
  intro e
  obtain ⟨a, ha⟩ := List.mem_iff_getElem?.1 hx
  rcases Nat.lt_trichotomy a i with h1 | h1 | h1
  · have := h.1 a x h1 ha; omega
  · subst h1
    unfold fndC at hf
    rw [ha] at hf
    simp at hf
    exact hf e
  · obtain ⟨y, hy⟩ : ∃ y, l[i]? = some y := ⟨_, List.getElem?_eq_getElem (by have := (List.getElem?_eq_some_iff.1 ha).1; omega)⟩
    have h2 := hs i a y x h1 hy ha
    have h3 := h.2 i y (Nat.le_refl _) hy
    omega
end
theorem flatC_take (l : List Ck) (i : Nat) : (l.flatMap Ck.cs).take (i * 4) = (l.take i).flatMap Ck.cs := by
  induction l generalizing i with
  | nil => simp
  | cons x l ih =>
    cases i with
    | zero => simp
    | succ i =>
      rw [List.flatMap_cons, List.take_succ_cons, List.flatMap_cons, ← ih i]
      rw [show (i + 1) * 4 = x.cs.length + i * 4 by rw [Ck.cs_len]; omega, List.take_length_add_append]
theorem flatC_drop (l : List Ck) (i : Nat) : (l.flatMap Ck.cs).drop (i * 4) = (l.drop i).flatMap Ck.cs := by
  induction l generalizing i with
  | nil => simp
  | cons x l ih =>
    cases i with
    | zero => simp
    | succ i =>
      rw [List.flatMap_cons, List.drop_succ_cons, ← ih i]
      rw [show (i + 1) * 4 = x.cs.length + i * 4 by rw [Ck.cs_len]; omega, List.drop_length_add_append]
/-- What Take answers. -/
structure Gt where
  (g o : Int) (l : List Ck) (er : Int)
def fitB (g o : Int) (c : Ck) : Bool := mayB c && (decide (c.g = g) && (decide (o = 0) || decide (o = c.of_)))
def takeC (g o : Int) (l : List Ck) (c : Ck) : Gt :=
  if rightG g o l = true then
    if fitB g o c = true then
      match getC l c.no with
      | some x => if ckEq x c = true then ⟨g, o, l, 0⟩ else ⟨0, 0, [], 200⟩
      | none => ⟨g, c.of_, putC l c, 0⟩
    else ⟨0, 0, [], 200⟩
  else ⟨0, 0, [], 1⟩
def TkTo (m : Gt) (w : World) (e : Ending) (w' : World) : Prop :=
  ∃ v, e = .returned (.tuple #[.agg #[.int .i64 m.g, .int .i64 m.o, v], .int .i64 m.er]) ∧ Row Ck.cs 4 w' v m.l ∧ Below w.heap.size w w'
theorem setG3 {w1 : World} {g : Nat} {x0 x1 x2 : Value} {T : TypeId} (h : w1.heap[g]? = some (.cells #[x0, x1, x2] T (0, 0))) (a b c : Value) :
    (((w1.setCell ⟨g, 0, none⟩ a).setCell ⟨g, 1, none⟩ b).setCell ⟨g, 2, none⟩ c).heap[g]? = some (.cells #[a, b, c] T (0, 0)) := by
  have := blk_set (blk_set (blk_set h 0 a) 1 b) 2 c
  simpa using this
theorem belG3 {w w1 : World} {n : Nat} (B : Below n w w1) {g : Nat} (hg : n ≤ g) (a b c : Value) :
    Below n w (((w1.setCell ⟨g, 0, none⟩ a).setCell ⟨g, 1, none⟩ b).setCell ⟨g, 2, none⟩ c) :=
  ((B.setCell (p := ⟨g, 0, none⟩) hg a).setCell (p := ⟨g, 1, none⟩) hg b).setCell (p := ⟨g, 2, none⟩) hg c
theorem ownG3 {w1 : World} {base : Nat} {e : TypeId} {size n : Nat} {v : Value} {xs : List Value} (h : w1.ownsRow base e size v n xs) {g : Nat} (hg : g < base) (a b c : Value) :
    (((w1.setCell ⟨g, 0, none⟩ a).setCell ⟨g, 1, none⟩ b).setCell ⟨g, 2, none⟩ c).ownsRow base e size v n xs :=
  own_set (own_set (own_set h (p := ⟨g, 0, none⟩) hg a) (p := ⟨g, 1, none⟩) hg b) (p := ⟨g, 2, none⟩) hg c
/-- What Insert makes of boxes and of a row of one's own. -/
def CrAt (w : World) (n : Nat) (l : List Ck) (W : World) (e : Ending) (w9 : World) : Prop :=
  ∃ A5 c5, e = .returned (.slice A5 n c5) ∧ (∀ k o, k < w.heap.size + 3 → W.heap[k]? = some o → w9.heap[k]? = some o) ∧ w9.ownsRow (w.heap.size + 3) 56 4 (.slice A5 n c5) n (l.flatMap Ck.cs) ∧ Below w.heap.size w w9
theorem insC_at {w W : World} {v4 : Value} {l : List Ck} (hoh : W.ownsRow (w.heap.size + 3) 56 4 v4 l.length (l.flatMap Ck.cs)) (hb : Below w.heap.size w W) (hsz : w.heap.size + 3 ≤ W.heap.size)
    (i : Nat) (hi : i ≤ l.length) (h32 : l.length ≤ 1000000) (x : Ck) (vb : Nat) (TX : TypeId) (hne : v4.ownBlock ≠ some vb) (hv : W.heap[vb]? = some (.cells x.cs.toArray TX (0, 0))) :
    Calls Try.prog 63 #[v4, .int .i64 i, .slice (some ⟨vb, 0, none⟩) 1 1] W (CrAt w (l.length + 1) (l.take i ++ x :: l.drop i) W) := by
  refine (ciinsert (w.heap.size + 3) l.length i vb v4 _ x.cs TX W hoh hsz h32 hi hne hv rfl Ck.cs_one (by intro u hu; simp [Ck.cs] at hu; rcases hu with rfl | rfl | rfl | rfl <;> rfl)).mono ?_
  rintro e w9 ⟨v', rfl, hown, hgr⟩
  obtain ⟨A5, c5, rfl⟩ := own_slice hown
  refine ⟨A5, c5, rfl, fun k o hk ho => (hgr.block k (blk_lt ho) (fun e => by have := (hoh.lt k e.symm).1; omega)).trans ho, ?_, Below.grown hb hgr hb.size (fun q hq => by have := (hoh.lt q hq).1; omega)⟩
  rw [flatC_take, flatC_drop] at hown
  rw [List.flatMap_append, List.flatMap_cons]
  exact hown
end Go.Proofs.Ytdanfeldbdooeaa
