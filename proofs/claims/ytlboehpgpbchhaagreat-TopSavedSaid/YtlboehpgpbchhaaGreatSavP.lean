/-
  PLAIN: what a store with a group and a mark in it comes to, wherever the power goes.
-/
import Derived.Test.YtlboehpgpbchhaaGreatStoreT3
set_option linter.unusedVariables false
set_option linter.unusedSimpArgs false
namespace Go.Proofs.YtlboehpgpbchhaaGreat.Sto
open Go.RowKit

def gN : ByteArray := ⟨#[103, 114, 111, 117, 112]⟩
def mN : ByteArray := ⟨#[109, 97, 114, 107]⟩
def two (a k : ByteArray) : List Cl := [⟨gN, a⟩, ⟨mN, k⟩]
theorem gm_lt : ltS gN mN = true := by kernel_rfl
theorem g_no : noB gN = false := by kernel_rfl
theorem m_no : noB mN = false := by kernel_rfl
theorem g_sz : gN.size = 5 := rfl
theorem m_sz : mN.size = 4 := rfl
theorem gm_eq : eqB gN mN = false := by kernel_rfl
theorem mg_eq : eqB mN gN = false := by kernel_rfl
theorem gg_eq : eqB gN gN = true := eqB_refl _
theorem mm_eq : eqB mN mN = true := eqB_refl _
/-- Bytes that a cell may have. -/
def By (a : ByteArray) : Prop := a.size ≤ 4096 ∧ noB a = false
theorem mayG {a : ByteArray} (h : By a) : mayC ⟨gN, a⟩ = true := by unfold mayC; simp only; rw [g_no, g_sz, decide_eq_true h.1]; rfl
theorem mayM {a : ByteArray} (h : By a) : mayC ⟨mN, a⟩ = true := by unfold mayC; simp only; rw [m_no, m_sz, decide_eq_true h.1]; rfl
theorem mm_lt : ltS mN gN = false := ltS_asym gm_lt
theorem all_two {a k : ByteArray} (h : By a) (hk : By k) : allC (two a k) = true := by
  unfold allC
  rw [allR_iff]
  intro x hx
  simp only [two, List.mem_cons, List.not_mem_nil, or_false] at hx
  rcases hx with rfl | rfl
  · exact mayG h
  · exact mayM hk
theorem okC_two {a k : ByteArray} (h : By a) (hk : By k) : okC (two a k) = true := by
  rw [okC_iff]
  refine ⟨fun x hx => ?_, ?_⟩
  · simp only [two, List.mem_cons, List.not_mem_nil, or_false] at hx
    rcases hx with rfl | rfl
    · exact h.2
    · exact hk.2
  · unfold Rise two
    simp [gm_lt]
theorem right_two {a k : ByteArray} (h : By a) (hk : By k) {f : List Cl} (hf : allC f = true) (hl : f.length ≤ 64) : rightB (two a k) f = true := by
  unfold rightB
  rw [all_two h hk, okC_two h hk, hf, decide_eq_true hl]
  rfl
theorem right_nil {f : List Cl} (hf : allC f = true) (hl : f.length ≤ 64) : rightB [] f = true := by
  unfold rightB
  rw [hf, decide_eq_true hl]
  rfl
theorem allC_of {f : List Cl} (h : ∀ x ∈ f, mayC x = true) : allC f = true := by unfold allC; rw [allR_iff]; exact h
theorem with_nil {x : Cl} (h : noB x.b = false) : withL [] x = [x] := by
  unfold withL wEnd wFold
  simp [h]
theorem with_gm {a k : ByteArray} (hk : noB k = false) : withL [⟨gN, a⟩] ⟨mN, k⟩ = two a k := by
  unfold withL wEnd wFold
  simp [wStep, hk, gm_lt, gm_eq, two]
theorem with_g {a b k : ByteArray} (hb : noB b = false) : withL (two a k) ⟨gN, b⟩ = two b k := by
  unfold withL wEnd wFold two
  simp [wStep, hb, gg_eq, mg_eq, mm_lt, ltS_irr]
theorem with_m {a j k : ByteArray} (hk : noB k = false) : withL (two a j) ⟨mN, k⟩ = two a k := by
  unfold withL wEnd wFold two
  simp [wStep, hk, gm_eq, mm_eq, gm_lt, ltS_irr]
theorem count_nil {a k : ByteArray} (h : By a) (hk : By k) : countL [] (two a k) = two a k := by
  unfold countL
  rw [show two a k = [⟨gN, a⟩, ⟨mN, k⟩] from rfl, List.foldl_cons, List.foldl_cons, List.foldl_nil, with_nil h.2, with_gm hk.2]
  rfl
theorem count_two {a b j k : ByteArray} (h : By b) (hk : By k) : countL (two a j) (two b k) = two b k := by
  unfold countL
  rw [show two b k = [⟨gN, b⟩, ⟨mN, k⟩] from rfl, List.foldl_cons, List.foldl_cons, List.foldl_nil, with_g h.2, with_m hk.2]
  rfl
def n1 : ByteArray := ⟨#[49]⟩
def n2 : ByteArray := ⟨#[50]⟩
theorem by1 : By n1 := ⟨by decide, by kernel_rfl⟩
theorem by2 : By n2 := ⟨by decide, by kernel_rfl⟩
theorem row_two (w : World) {a k : ByteArray} (h : By a) (hk : By k) : OkRow (w.alloc (.cells #[.string gN, .string a, .string mN, .string k] 64)) (.slice (some ⟨w.heap.size, 0, none⟩) 2 2) (two a k) := by
  refine ⟨Row.of_own (base := w.heap.size) (e := 64) (n := 2) Cl.cs_len ⟨rfl, .inr ⟨w.heap.size, 2, _, rfl, Nat.le_refl _, heap_at w _ _ rfl, Nat.le_refl _, by unfold maxLen; omega, rfl, rfl⟩⟩ rfl, ?_, by simp [two]⟩
  have h1 := h.1
  have h2 := hk.1
  intro x hx
  simp only [two, List.mem_cons, List.not_mem_nil, or_false] at hx
  unfold Cl.Ok maxLen
  rcases hx with rfl | rfl
  · simp only [g_sz]
    omega
  · simp only [m_sz]
    omega
theorem write_ok {s : St} {x : Cl} (hr : rightB s.c s.f = true) (hx : mayC x = true) (hd : s.d = false) (hl : s.f.length < 64) : writeS s x = (⟨s.c, s.f ++ [x], false⟩, 0) := by
  unfold writeS
  rw [hr, hx, if_pos (show (true && true) = true from rfl), hd, if_neg (by decide), if_neg (by omega)]
theorem commit_ok {s : St} (hr : rightB s.c s.f = true) (hd : s.d = false) (hl : (countL s.c s.f).length ≤ 64) : commitS s = (⟨countL s.c s.f, [], false⟩, 0) := by
  unfold commitS
  rw [hr, if_pos rfl, hd, if_neg (by decide), if_neg (by omega)]
theorem allC_nil : allC [] = true := rfl
theorem allC_one {x : Cl} (h : mayC x = true) : allC [x] = true := allC_of (by simp [h])
theorem goB_two {c : List Cl} {a k : ByteArray} {left : Int} (h : By a) (hk : By k) (hc : ∀ f : List Cl, allC f = true → f.length ≤ 64 → rightB c f = true) (hcl : countL c (two a k) = two a k) :
    (left < 0 ∨ 2 < left → goB ⟨c, [], false⟩ (two a k) 0 left = (⟨two a k, [], false⟩, 0)) ∧ (0 ≤ left ∧ left ≤ 2 → ∃ f, allC f = true ∧ f.length ≤ 64 ∧ goB ⟨c, [], false⟩ (two a k) 0 left = (⟨c, f, true⟩, 170)) := by
  have h0 := hc [] allC_nil (by simp)
  have h1 := hc [⟨gN, a⟩] (allC_one (mayG h)) (by simp)
  have h2 := hc (two a k) (all_two h hk) (by simp [two])
  have w0 := write_ok (s := ⟨c, [], false⟩) h0 (mayG h) rfl (by simp)
  have w1 := write_ok (s := ⟨c, [⟨gN, a⟩], false⟩) h1 (mayM hk) rfl (by simp)
  have w2 := commit_ok (s := ⟨c, two a k, false⟩) h2 rfl (by simp only; rw [hcl]; simp [two])
  simp only [List.nil_append] at w0
  have w1' : writeS ⟨c, [⟨gN, a⟩], false⟩ ⟨mN, k⟩ = (⟨c, two a k, false⟩, 0) := w1
  simp only at w2
  rw [hcl] at w2
  constructor
  · intro hl
    unfold two goB
    rw [if_neg (by omega), w0]
    simp only [if_true]
    unfold goB
    rw [if_neg (by omega), w1']
    simp only [if_true]
    unfold goB
    rw [if_neg (by omega), w2]
    simp
    rfl
  · intro hl
    rcases Int.lt_trichotomy left 1 with h9 | h9 | h9
    · refine ⟨[], allC_nil, by simp, ?_⟩
      rw [goB_left (by omega)]
    · refine ⟨[⟨gN, a⟩], allC_one (mayG h), by simp, ?_⟩
      unfold two goB
      rw [if_neg (by omega), w0]
      simp only [if_true]
      rw [goB_left (by omega)]
    · refine ⟨two a k, all_two h hk, by simp [two], ?_⟩
      unfold two goB
      rw [if_neg (by omega), w0]
      simp only [if_true]
      unfold goB
      rw [if_neg (by omega), w1']
      simp only [if_true]
      rw [goB_left (by omega)]
      rfl
theorem batch_nil {a k : ByteArray} (h : By a) (hk : By k) : batchS zS (two a k) (-1) = (⟨two a k, [], false⟩, 0) := by
  have hr : (rightB zS.c zS.f && allC (two a k)) = true := by rw [show rightB zS.c zS.f = true from right_nil (f := []) allC_nil (by simp), all_two h hk]; rfl
  unfold batchS
  rw [hr, if_pos rfl, if_neg (by decide)]
  exact (goB_two h hk (fun f hf hl => right_nil hf hl) (count_nil h hk)).1 (.inl (by decide))
theorem batch_two {a b j k : ByteArray} {left : Int} (ha : By a) (hj : By j) (h : By b) (hk : By k) :
    (left < 0 ∨ 2 < left → batchS ⟨two a j, [], false⟩ (two b k) left = (⟨two b k, [], false⟩, 0)) ∧ (0 ≤ left ∧ left ≤ 2 → ∃ f, allC f = true ∧ f.length ≤ 64 ∧ batchS ⟨two a j, [], false⟩ (two b k) left = (⟨two a j, f, true⟩, 170)) := by
  have hr : (rightB (two a j) [] && allC (two b k)) = true := by rw [right_two ha hj allC_nil (by simp), all_two h hk]; rfl
  unfold batchS
  simp only
  rw [hr, if_pos rfl, if_neg (by decide)]
  exact goB_two h hk (fun f hf hl => right_two ha hj hf hl) (count_two h hk)
theorem start_two {a j : ByteArray} {f : List Cl} {d : Bool} (ha : By a) (hj : By j) (hf : allC f = true) (hl : f.length ≤ 64) : startS ⟨two a j, f, d⟩ = (⟨two a j, [], false⟩, 0) := by
  unfold startS
  simp only
  rw [right_two ha hj hf hl, if_pos rfl]
theorem read_g {a j : ByteArray} (ha : By a) (hj : By j) : readS ⟨two a j, [], false⟩ gN = (a, 0) := by
  unfold readS getS
  simp only
  rw [right_two ha hj allC_nil (by simp), if_pos rfl, if_neg (by decide)]
  simp [two, gg_eq]
theorem read_m {a j : ByteArray} (ha : By a) (hj : By j) : readS ⟨two a j, [], false⟩ mN = (j, 0) := by
  unfold readS getS
  simp only
  rw [right_two ha hj allC_nil (by simp), if_pos rfl, if_neg (by decide)]
  simp [two, gm_eq, mm_eq]
end Go.Proofs.YtlboehpgpbchhaaGreat.Sto
