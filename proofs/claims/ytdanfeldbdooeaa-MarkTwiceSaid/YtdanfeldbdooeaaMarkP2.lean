/-
  PLAIN: what keeps marks right.
-/
import Derived.Test.YtdanfeldbdooeaaMarkW21
import Derived.Test.YtdanfeldbdooeaaMarkW11
set_option linter.unusedVariables false
set_option linter.unusedSimpArgs false
namespace Go.Proofs.Ytdanfeldbdooeaa
open Go.RowKit

theorem srt_pw {l : List Hld} : srtH l ↔ l.Pairwise (fun x y => x.no < y.no) := by
  rw [List.pairwise_iff_getElem]
  constructor
  · intro h i j hi hj hij
    exact h i j _ _ hij (List.getElem?_eq_getElem hi) (List.getElem?_eq_getElem hj)
  · intro h a b x y hab hx hy
    obtain ⟨ha, rfl⟩ := List.getElem?_eq_some_iff.1 hx
    obtain ⟨hb, rfl⟩ := List.getElem?_eq_some_iff.1 hy
    exact h a b ha hb hab
theorem holds_mem {l : List Hld} (h : holdsB l = true) : ∀ x ∈ l, 0 ≤ x.no ∧ timeB x.at_ = true := by
  intro x hx
  obtain ⟨k, hk⟩ := List.mem_iff_getElem?.1 hx
  have := holdsB_at h (List.getElem?_eq_some_iff.1 hk).1
  unfold holdAt at this
  rw [getH_bang hk] at this
  simp only [Bool.and_eq_true, decide_eq_true_eq] at this
  exact ⟨this.1, this.2.1⟩
theorem holds_of {l : List Hld} (h : ∀ x ∈ l, 0 ≤ x.no ∧ timeB x.at_ = true) (hs : srtH l) : holdsB l = true := by
  unfold holdsB
  rw [List.all_eq_true]
  intro k hk
  have hk := List.mem_range.1 hk
  obtain ⟨x, hx⟩ : ∃ x, l[k]? = some x := ⟨_, List.getElem?_eq_getElem hk⟩
  obtain ⟨h1, h2⟩ := h x (List.mem_of_getElem? hx)
  unfold holdAt
  rw [getH_bang hx]
  simp only [Bool.and_eq_true, Bool.or_eq_true, decide_eq_true_eq]
  refine ⟨h1, h2, ?_⟩
  by_cases h0 : k = 0
  · exact .inl h0
  · right
    obtain ⟨y, hy⟩ : ∃ y, l[k - 1]? = some y := ⟨_, List.getElem?_eq_getElem (by omega)⟩
    rw [getH_bang hy]
    exact hs (k - 1) k y x (by omega) hy hx
theorem inputs_mem {l : List Inp} (h : inputsB l = true) : ∀ x ∈ l, timeB x.mark = true := by
  intro x hx
  obtain ⟨k, hk⟩ := List.mem_iff_getElem?.1 hx
  unfold inputsB at h
  rw [List.all_eq_true] at h
  have := h k (List.mem_range.2 (List.getElem?_eq_some_iff.1 hk).1)
  unfold inAt at this
  rw [inAt_get hk] at this
  exact this
theorem inputs_of {l : List Inp} (h : ∀ x ∈ l, timeB x.mark = true) : inputsB l = true := by
  unfold inputsB
  rw [List.all_eq_true]
  intro k hk
  have hk := List.mem_range.1 hk
  obtain ⟨x, hx⟩ : ∃ x, l[k]? = some x := ⟨_, List.getElem?_eq_getElem hk⟩
  unfold inAt
  rw [inAt_get hx]
  exact h x (List.mem_of_getElem? hx)
theorem right_mk {li : List Inp} {lh : List Hld} {o : Int} (h1 : 1 ≤ li.length) (h2 : li.length ≤ 8) (h3 : lh.length ≤ 32) (h4 : timeB o = true) (h5 : holdsB lh = true) (h6 : inputsB li = true) : rightM li lh o = true := by
  unfold rightM
  simp only [Bool.and_eq_true, decide_eq_true_eq]
  exact ⟨⟨h1, h2, h3, h4⟩, h5, h6⟩
theorem clamp_time (t : Int) : timeB (clampT t) = true := by unfold timeB clampT; simp; omega
theorem time_max {a b : Int} (ha : timeB a = true) (hb : timeB b = true) : timeB (max a b) = true := by unfold timeB at *; simp at *; omega
theorem right_set {li : List Inp} {lh : List Hld} {o : Int} (h : rightM li lh o = true) (i : Nat) {m : Int} (hm : timeB m = true) (d : Bool) : rightM (li.set i ⟨m, d⟩) lh o = true := by
  obtain ⟨h1, h2, h3, h4, h5, h6⟩ := right_holds h
  refine right_mk (by rw [List.length_set]; exact h3) (by rw [List.length_set]; exact h4) h2 h5 h1 (inputs_of fun x hx => ?_)
  rcases List.mem_or_eq_of_mem_set hx with h | h
  · exact inputs_mem h6 x h
  · rw [h]; exact hm
theorem right_put {li : List Inp} {lh : List Hld} {o no : Int} (h : rightM li lh o = true) (h0 : 0 ≤ no) (t : Int) (hl : (putH lh no t).length ≤ 32) : rightM li (putH lh no t) o = true := by
  obtain ⟨h1, h2, h3, h4, h5, h6⟩ := right_holds h
  refine right_mk h3 h4 hl h5 (holds_of ?_ ?_) h6
  · intro x hx
    unfold putH at hx
    rcases List.mem_append.1 hx with hx | hx
    · exact holds_mem h1 x (List.mem_filter.1 hx).1
    · rcases List.mem_cons.1 hx with hx | hx
      · rw [hx]; exact ⟨h0, clamp_time t⟩
      · exact holds_mem h1 x (List.mem_filter.1 hx).1
  · have hp := srt_pw.1 (srt_of h1)
    rw [srt_pw]
    unfold putH
    rw [List.pairwise_append, List.pairwise_cons]
    refine ⟨hp.filter _, ⟨fun y hy => by have := (List.mem_filter.1 hy).2; simpa using this, hp.filter _⟩, fun x hx y hy => ?_⟩
    have hx := (List.mem_filter.1 hx).2
    simp at hx
    rcases List.mem_cons.1 hy with hy | hy
    · rw [hy]; exact hx
    · have := (List.mem_filter.1 hy).2
      simp at this
      omega
theorem right_rem {li : List Inp} {lh : List Hld} {o : Int} (h : rightM li lh o = true) (no : Int) : rightM li (remH lh no) o = true := by
  obtain ⟨h1, h2, h3, h4, h5, h6⟩ := right_holds h
  have := remH_le lh no
  refine right_mk h3 h4 (by omega) h5 (holds_of (fun x hx => holds_mem h1 x (List.mem_filter.1 hx).1) ?_) h6
  rw [srt_pw]
  exact (srt_pw.1 (srt_of h1)).filter _
/-- What an act makes may be, and has the same time. -/
theorem doM_right {li : List Inp} {lh : List Hld} {o : Int} (h : rightM li lh o = true) (what no t : Int) (he : (doM li lh o what no t).er = 0) : rightM (doM li lh o what no t).li (doM li lh o what no t).lh (doM li lh o what no t).o = true ∧ (doM li lh o what no t).o = o := by
  have hp := right_holds h
  have hin : ∀ i : Int, inM li lh o i = true → ∃ x ∈ li, li[i.toNat]! = x := by
    intro i hi
    unfold inM at hi
    simp only [Bool.and_eq_true, decide_eq_true_eq] at hi
    obtain ⟨x, hx⟩ : ∃ x, li[i.toNat]? = some x := ⟨_, List.getElem?_eq_getElem (by omega)⟩
    exact ⟨x, List.mem_of_getElem? hx, inAt_get hx⟩
  unfold doM at he ⊢
  split
  · rename_i hw
    rw [if_pos hw] at he
    unfold setM at he ⊢
    split
    · rename_i hi
      obtain ⟨x, hx, e⟩ := hin _ hi
      exact ⟨right_set h _ (time_max (by rw [e]; exact inputs_mem hp.2.2.2.2.2 x hx) (clamp_time t)) _, rfl⟩
    · rename_i hi; rw [if_neg hi] at he; simp [mkZ] at he
  rename_i hw
  rw [if_neg hw] at he
  split
  · rename_i hw
    rw [if_pos hw] at he
    unfold idleM at he ⊢
    split
    · rename_i hi
      obtain ⟨x, hx, e⟩ := hin _ hi
      exact ⟨right_set h _ (by rw [e]; exact inputs_mem hp.2.2.2.2.2 x hx) _, rfl⟩
    · rename_i hi; rw [if_neg hi] at he; simp [mkZ] at he
  rename_i hw
  rw [if_neg hw] at he
  split
  · rename_i hw
    rw [if_pos hw] at he
    unfold holdM at he ⊢
    split
    · rename_i hi
      rw [if_pos hi] at he
      split
      · rename_i hl
        simp only [Bool.and_eq_true, decide_eq_true_eq] at hi
        exact ⟨right_put h hi.2 t hl, rfl⟩
      · rename_i hl; rw [if_neg hl] at he; simp [mkZ] at he
    · rename_i hi; rw [if_neg hi] at he; simp [mkZ] at he
  · rename_i hw
    rw [if_neg hw] at he
    unfold freeM at he ⊢
    split
    · exact ⟨right_rem h no, rfl⟩
    · rename_i hi; rw [if_neg hi] at he; simp [mkZ] at he
/-- Rows that may be are marks. -/
theorem marks_of {W : World} {vi vh : Value} {li : List Inp} {lh : List Hld} {o : Int} (h : rightM li lh o = true) (hw : ∀ x ∈ lh, wfL x.no) (h1 : Row Inp.cs 2 W vi li) (h2 : Row Hld.cs 2 W vh lh) : MarksAt W (.agg #[vi, vh, .int .i64 o]) li lh o := by
  obtain ⟨g1, g2, g3, g4, g5, g6⟩ := right_holds h
  have ht : ∀ t, timeB t = true → wfL t := fun t ht => by have := timeB_rng ht; unfold wfL; omega
  exact ⟨vi, vh, rfl, h1, h2, fun x hx => ht _ (inputs_mem g6 x hx), fun x hx => ⟨hw x hx, ht _ (holds_mem g1 x hx).2⟩, ht _ g5, by unfold maxLen; omega, by unfold maxLen; omega⟩
theorem first_le : ∀ (l : List Int) (x : Int), x ∈ l → firstT l ≤ clampT x := by
  have : ∀ (l : List Int) (a : Int), l.foldl (fun a t => min a (clampT t)) a ≤ a ∧ ∀ x ∈ l, l.foldl (fun a t => min a (clampT t)) a ≤ clampT x := by
    intro l
    induction l with
    | nil => intro a; exact ⟨by simp, by simp⟩
    | cons y l ih =>
      intro a
      rw [List.foldl_cons]
      obtain ⟨h1, h2⟩ := ih (min a (clampT y))
      refine ⟨by omega, fun x hx => ?_⟩
      rcases List.mem_cons.1 hx with hx | hx
      · rw [hx]; omega
      · exact h2 x hx
  intro l x hx
  exact (this l _).2 x hx
/-- What is told may be, and is no earlier; it is later just if it is above. -/
theorem out_right {li : List Inp} {lh : List Hld} {o : Int} (h : rightM li lh o = true) : rightM li lh (outM li lh o) = true ∧ o ≤ outM li lh o ∧ laterM li lh o = decide (o < outM li lh o) := by
  obtain ⟨g1, g2, g3, g4, g5, g6⟩ := right_holds h
  have hr := firstT_rng (tellL li lh)
  cases hl : laterM li lh o with
  | false =>
    have he : outM li lh o = o := by unfold outM; rw [hl]; rfl
    rw [he]
    exact ⟨h, Int.le_refl _, by simp⟩
  | true =>
    have he : outM li lh o = firstT (tellL li lh) := by unfold outM; rw [hl]; rfl
    rw [he]
    have hlt : o < firstT (tellL li lh) := by
      unfold laterM at hl
      simp only [Bool.and_eq_true, decide_eq_true_eq] at hl
      exact hl.2
    exact ⟨right_mk g3 g4 g2 (by unfold timeB; simp; exact hr) g1 g6, by omega, by simpa using hlt⟩
/-- To tell twice tells nothing later. -/
theorem out_again {li : List Inp} {lh : List Hld} {o : Int} (h : rightM li lh o = true) : outM li lh (outM li lh o) = outM li lh o ∧ laterM li lh (outM li lh o) = false := by
  have hlf : laterM li lh (outM li lh o) = false := by
    cases hl : laterM li lh o with
    | false =>
      have he : outM li lh o = o := by unfold outM; rw [hl]; rfl
      rw [he]; exact hl
    | true =>
      have he : outM li lh o = firstT (tellL li lh) := by unfold outM; rw [hl]; rfl
      rw [he]
      unfold laterM
      simp
  refine ⟨?_, hlf⟩
  have he : outM li lh (outM li lh o) = if laterM li lh (outM li lh o) then firstT (tellL li lh) else outM li lh o := rfl
  rw [he, hlf]
  rfl
/-- What is told as later is above nothing that holds it back. -/
theorem out_back {li : List Inp} {lh : List Hld} {o : Int} (h : rightM li lh o = true) (hl : laterM li lh o = true) : (∀ x ∈ li, x.idle = false → outM li lh o ≤ x.mark) ∧ ∀ x ∈ lh, outM li lh o ≤ x.at_ := by
  obtain ⟨g1, g2, g3, g4, g5, g6⟩ := right_holds h
  have he : outM li lh o = firstT (tellL li lh) := by unfold outM; rw [hl]; rfl
  have hc : ∀ t, timeB t = true → clampT t = t := fun t ht => by have := timeB_rng ht; unfold clampT; omega
  rw [he]
  refine ⟨fun x hx hi => ?_, fun x hx => ?_⟩
  · have := first_le (tellL li lh) x.mark (by unfold tellL; exact List.mem_append.2 (.inl (by unfold backI; exact List.mem_map.2 ⟨x, List.mem_filter.2 ⟨hx, by simp [hi]⟩, rfl⟩)))
    rw [hc _ (inputs_mem g6 x hx)] at this
    exact this
  · have := first_le (tellL li lh) x.at_ (by unfold tellL; exact List.mem_append.2 (.inr (by unfold backH; exact List.mem_map.2 ⟨x, hx, rfl⟩)))
    rw [hc _ (holds_mem g1 x hx).2] at this
    exact this
theorem rem_put {l : List Hld} {no : Int} (hs : srtH l) (hn : hasH l no = false) (t : Int) : remH (putH l no t) no = l ∧ hasH (putH l no t) no = true := by
  have hne : ∀ x ∈ l, x.no ≠ no := fun x hx e => by
    unfold hasH at hn
    rw [List.any_eq_false] at hn
    exact hn x hx (by simpa using e)
  refine ⟨?_, ?_⟩
  · have h1 := rem_split no hs
    have h2 : remH l no = l := filter_all _ (fun x hx => by simpa using hne x hx)
    rw [h2] at h1
    refine Eq.trans ?_ h1.symm
    have e1 : (l.filter (fun x => decide (x.no < no))).filter (fun x => decide (x.no ≠ no)) = l.filter (fun x => decide (x.no < no)) := filter_all _ (fun x hx => by simpa using hne x (List.mem_filter.1 hx).1)
    have e2 : (l.filter (fun x => decide (no < x.no))).filter (fun x => decide (x.no ≠ no)) = l.filter (fun x => decide (no < x.no)) := filter_all _ (fun x hx => by simpa using hne x (List.mem_filter.1 hx).1)
    unfold remH putH
    rw [List.filter_append, List.filter_cons, if_neg (by simp), e1, e2]
  · unfold hasH putH
    rw [List.any_append, List.any_cons]
    simp
end Go.Proofs.Ytdanfeldbdooeaa
