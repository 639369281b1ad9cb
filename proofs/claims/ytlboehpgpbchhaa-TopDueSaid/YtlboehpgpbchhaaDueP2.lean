/-
  PLAIN: the windows that are due, out of a heap and out of the panes.
-/
import Derived.Test.YtlboehpgpbchhaaDueW10
import Derived.Test.YtlboehpgpbchhaaDueG4
import Derived.Test.YtlboehpgpbchhaaDueM1
set_option linter.unusedVariables false
set_option linter.unusedSimpArgs false
namespace Go.Proofs.Ytlboehpgpbchhaa
open Go.RowKit

def tmOf (p : Pn) : Tm := ⟨p.hi, p.k⟩
theorem sorted_eq : ∀ (l m : List Int), l.Perm m → l.Pairwise (· ≤ ·) → m.Pairwise (· ≤ ·) → l = m
  | [], m, h, _, _ => (List.nil_perm.1 h).symm
  | a :: l, [], h, _, _ => absurd h.length_eq (by simp)
  | a :: l, b :: m, h, h1, h2 => by
    obtain ⟨p1, q1⟩ := List.pairwise_cons.1 h1
    obtain ⟨p2, q2⟩ := List.pairwise_cons.1 h2
    have e : a = b := by
      have ha : a ∈ b :: m := h.subset List.mem_cons_self
      have hb : b ∈ a :: l := h.symm.subset List.mem_cons_self
      rcases List.mem_cons.1 ha with h3 | h3
      · exact h3
      · rcases List.mem_cons.1 hb with h4 | h4
        · exact h4.symm
        · have := p2 a h3
          have := p1 b h4
          omega
    subst e
    rw [sorted_eq l m ((List.perm_cons a).1 h) q1 q2]
theorem pok_at {l : List Pn} (h : prB l = true) {i : Nat} {p : Pn} (hp : l[i]? = some p) : pmB p = true ∧ ∀ q, 0 < i → l[i - 1]? = some q → q.hi ≤ p.hi := by
  unfold prB at h
  simp only [Bool.and_eq_true, decide_eq_true_eq, List.all_eq_true, List.mem_range] at h
  obtain ⟨hi, rfl⟩ := List.getElem?_eq_some_iff.1 hp
  have h1 := h.2 i hi
  unfold pokAt at h1
  rw [List.getElem!_eq_getElem?_getD, hp] at h1
  simp only [Option.getD_some, Bool.and_eq_true, Bool.or_eq_true, decide_eq_true_eq] at h1
  refine ⟨h1.1, fun q h0 hq => ?_⟩
  rcases h1.2 with h2 | h2
  · omega
  · rw [List.getElem!_eq_getElem?_getD, hq] at h2
    simp only [Option.getD_some] at h2
    by_cases hh : l[i].hi < q.hi
    · have e : cmpI q.hi l[i].hi = 1 := by unfold cmpI; rw [if_neg (by omega), if_pos hh]
      unfold cmpP orI at h2
      rw [e] at h2
      simp at h2
    · omega
theorem pn_sorted {l : List Pn} (h : prB l = true) : l.Pairwise (fun p q => p.hi ≤ q.hi) := by
  rw [List.pairwise_iff_getElem]
  intro i j hi hj hij
  induction j with
  | zero => omega
  | succ j ih =>
    have h1 := (pok_at h (List.getElem?_eq_getElem hj)).2 l[j] (by omega) (List.getElem?_eq_getElem (by omega))
    by_cases e : i = j
    · subst e
      exact h1
    · exact Int.le_trans (ih (by omega) (by omega)) h1
theorem pn_hi {l : List Pn} (h : prB l = true) : ∀ p ∈ l, p.hi ≤ 1099511627776 := by
  intro p hp
  obtain ⟨i, hi, rfl⟩ := List.getElem_of_mem hp
  have := (pok_at h (List.getElem?_eq_getElem hi)).1
  unfold pmB at this
  simp only [Bool.and_eq_true, decide_eq_true_eq] at this
  exact this.1.2
/-- What Due and Advance tell is one thing. -/
structure DueEq (l : List Pn) (mx : Int) (k : Nat) (out l' : List Tm) : Prop where
  per : out.Perm ((l.take k).map tmOf)
  len : out.length = k
  rest : l'.length = l.length - k
  ats : out.map Tm.a = (l.take k).map Pn.hi
  mrk : ∀ p ∈ l.take k, p.hi ≤ mx
theorem due_plain {l : List Pn} {out l' lt : List Tm} {mx : Int} {k : Nat} (hpr : prB l = true) (hdu : DuP lt mx out l') (hgt : ∀ y ∈ l', mx < y.a) (hlt : lt.Perm (l.map tmOf)) (hcl : clB (min mx 1099511627776) (l.take k) = true) (hop : ∀ x, l[k]? = some x → min mx 1099511627776 < x.hi) (hk : k ≤ l.length) : DueEq l mx k out l' := by
  have hm1 : ∀ p ∈ l.take k, p.hi ≤ mx := by
    intro p hp
    unfold clB at hcl
    have := of_decide_eq_true (List.all_eq_true.1 hcl p hp)
    omega
  have hm2 : ∀ p ∈ l.drop k, mx < p.hi := by
    intro p hp
    obtain ⟨i, hi, rfl⟩ := List.getElem_of_mem hp
    rw [List.length_drop] at hi
    have h1 := hop l[k] (List.getElem?_eq_getElem (by omega))
    have h2 : l[k].hi ≤ l[k + i].hi := by
      by_cases e : i = 0
      · subst e
        exact Int.le_refl _
      · exact (List.pairwise_iff_getElem.1 (pn_sorted hpr)) k (k + i) (by omega) (by omega) (by omega)
    have h3 := pn_hi hpr l[k] (List.getElem_mem _)
    rw [List.getElem_drop]
    omega
  have hper : out.Perm ((l.take k).map tmOf) := by
    have h1 := (hdu.per.trans hlt).filter (fun x => decide (x.a ≤ mx))
    rw [List.filter_append, List.filter_eq_self.2 (fun x hx => by simpa using hdu.mrk x hx), List.filter_eq_nil_iff.2 (fun x hx => by have := hgt x hx; simp; omega), List.append_nil] at h1
    have h2 : (l.map tmOf).filter (fun x => decide (x.a ≤ mx)) = (l.take k).map tmOf := by
      conv => lhs; rw [← List.take_append_drop k l]
      rw [List.map_append, List.filter_append, List.filter_eq_self.2 ?_, List.filter_eq_nil_iff.2 ?_, List.append_nil]
      · intro x hx
        obtain ⟨p, hp, rfl⟩ := List.mem_map.1 hx
        have h3 := hm2 p hp
        intro h4
        have h5 : p.hi ≤ mx := of_decide_eq_true h4
        omega
      · intro x hx
        obtain ⟨p, hp, rfl⟩ := List.mem_map.1 hx
        exact decide_eq_true (show p.hi ≤ mx from hm1 p hp)
    rw [h2] at h1
    exact h1
  have hlen : out.length = k := by
    rw [hper.length_eq, List.length_map, List.length_take]
    omega
  refine ⟨hper, hlen, ?_, ?_, hm1⟩
  · have := (hdu.per.trans hlt).length_eq
    rw [List.length_append, List.length_map] at this
    omega
  · have h1 := hper.map Tm.a
    rw [List.map_map] at h1
    have e : (Tm.a ∘ tmOf) = Pn.hi := rfl
    rw [e] at h1
    refine sorted_eq _ _ h1 (hdu.srt.map _ (fun _ _ h => h)) ?_
    exact ((pn_sorted hpr).sublist (List.take_sublist k l)).map _ (fun _ _ h => h)
/-- How often a timer stands in a row. -/
def cntT (l : List Tm) (x : Tm) : Int := ((l.filter (fun y => sameT y x)).length : Int)
theorem cnt_snoc (l : List Tm) (y x : Tm) : cntT (l ++ [y]) x = cntT l x + (if sameT y x = true then 1 else 0) := by
  unfold cntT
  rw [List.filter_append, List.length_append]
  by_cases h : sameT y x = true
  · simp [h]
  · have h' : sameT y x = false := by simpa using h
    simp [h']
theorem cnt_perm {l m : List Tm} (h : l.Perm m) (x : Tm) : cntT l x = cntT m x := by
  unfold cntT
  rw [(h.filter _).length_eq]
theorem cnt_bd (l : List Tm) (x : Tm) : 0 ≤ cntT l x ∧ cntT l x ≤ l.length := by
  unfold cntT
  have := List.length_filter_le (fun y => sameT y x) l
  omega
theorem sameT_comm (x y : Tm) : sameT x y = sameT y x := by
  rw [Bool.eq_iff_iff, sameT_eq, sameT_eq]
  exact ⟨Eq.symm, Eq.symm⟩
/-- What is counted after so many rounds. -/
def cntF (out ts : List Tm) (i : Nat) (x : Tm) : Int := cntT (out.take i) x - cntT (ts.take i) x
theorem cntF_step {out ts : List Tm} {i : Nat} {a b : Tm} (ha : out[i]? = some a) (hb : ts[i]? = some b) (f : Tm → Int) (hf : ∀ x, f x = cntF out ts i x) (x : Tm) :
    updF (updF f a (f a + 1)) b (updF f a (f a + 1) b - 1) x = cntF out ts (i + 1) x := by
  have e1 : out.take (i + 1) = out.take i ++ [a] := by rw [List.take_add_one, ha]; rfl
  have e2 : ts.take (i + 1) = ts.take i ++ [b] := by rw [List.take_add_one, hb]; rfl
  unfold cntF
  rw [e1, e2, cnt_snoc, cnt_snoc]
  have h1 := hf x
  unfold cntF at h1
  have u1 : ∀ y, updF f a (f a + 1) y = f y + (if sameT a y = true then 1 else 0) := by
    intro y
    unfold updF
    by_cases e : sameT y a = true
    · have := sameT_eq.1 e
      subst this
      rw [if_pos e, if_pos e]
    · rw [if_neg e, if_neg (by rw [sameT_comm]; exact e)]
      omega
  have u2 : updF (updF f a (f a + 1)) b (updF f a (f a + 1) b - 1) x = updF f a (f a + 1) x - (if sameT b x = true then 1 else 0) := by
    generalize updF f a (f a + 1) = g
    unfold updF
    by_cases e : sameT x b = true
    · have := sameT_eq.1 e
      subst this
      rw [if_pos e, if_pos e]
    · rw [if_neg e, if_neg (by rw [sameT_comm]; exact e)]
      omega
  rw [u2, u1]
  omega
theorem cntF_end {out ts : List Tm} (h : out.Perm ts) (x : Tm) (n : Nat) (h1 : out.length ≤ n) (h2 : ts.length ≤ n) : cntF out ts n x = 0 := by
  unfold cntF
  rw [List.take_of_length_le h1, List.take_of_length_le h2, cnt_perm h]
  omega
end Go.Proofs.Ytlboehpgpbchhaa
