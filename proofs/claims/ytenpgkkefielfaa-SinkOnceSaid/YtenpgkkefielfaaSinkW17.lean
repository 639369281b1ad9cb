/-
  Layer 19: sinks as one value; Add, Stage, Abort told as plain functions of it.
-/
import Derived.Test.YtenpgkkefielfaaSinkW16
set_option linter.unusedVariables false
set_option linter.unusedSimpArgs false
namespace Go.Proofs.Ytenpgkkefielfaa
open Go.RowKit

structure Snk where
  op : List Res
  st : List Stg
  last : Int
  out : List Res
def KAt (W : World) (v : Value) (k : Snk) : Prop := SinkAt W v k.op k.st k.last k.out
def zK : Snk := ⟨[], [], 0, []⟩
def Snk.right (k : Snk) : Bool := rightS k.op k.st k.last k.out
def likeK (a b : Snk) : Prop := a.op = b.op ∧ likeS a.st b.st ∧ a.last = b.last ∧ a.out = b.out
theorem likeS_self (st : List Stg) : likeS st st := ⟨rfl, fun k x y h1 h2 => by rw [h1] at h2; injection h2 with h2; subst h2; exact ⟨rfl, rfl⟩⟩
theorem likeK_self (a : Snk) : likeK a a := ⟨rfl, likeS_self _, rfl, rfl⟩
theorem KAt.below {W W' : World} {v : Value} {k : Snk} (h : KAt W v k) (hb : Below W.heap.size W W') : KAt W' v k := SinkAt.below h hb
theorem zK_at (W : World) : KAt W zS zK := zS_at W
def addE (k : Snk) (r : Res) : Int := if k.right && mayB r then (if 20000 ≤ cntS k.op k.st k.out then 3 else 0) else 1
def addK (k : Snk) (r : Res) : Snk := if addE k r = 0 then ⟨k.op ++ [r], k.st, k.last, k.out⟩ else zK
def lastN (k : Snk) : Int := prevS k.last k.st k.st.length
def stgE (k : Snk) (n : Int) : Int := if k.right && decide (n ≤ 1073741824) then (if n ≤ lastN k then 190 else if 8 ≤ k.st.length then 3 else 0) else 1
def stgK (k : Snk) (n : Int) (vo : Value) : Snk := if stgE k n = 0 then ⟨[], k.st ++ [⟨n, vo, k.op⟩], k.last, k.out⟩ else zK
def aboE (k : Snk) : Int := if k.right then 0 else 1
def aboK (k : Snk) : Snk := if k.right then ⟨[], [], k.last, k.out⟩ else zK
theorem stgK_like (k : Snk) (n : Int) (v1 v2 : Value) : likeK (stgK k n v1) (stgK k n v2) := by
  unfold stgK
  split
  · refine ⟨rfl, ⟨by simp, ?_⟩, rfl, rfl⟩
    intro j x y h1 h2
    by_cases hj : j < k.st.length
    · rw [List.getElem?_append_left hj] at h1 h2
      rw [h1] at h2; injection h2 with h2; subst h2; exact ⟨rfl, rfl⟩
    · rw [List.getElem?_append_right (by omega)] at h1 h2
      rcases Nat.eq_zero_or_pos (j - k.st.length) with hz | hz
      · rw [hz] at h1 h2; simp at h1 h2; subst h1 h2; exact ⟨rfl, rfl⟩
      · rw [List.getElem?_eq_none (by simp; omega)] at h1; simp at h1
  · exact likeK_self _
def AddTo (k : Snk) (r : Res) (w : World) (e : Ending) (w' : World) : Prop := (∃ v', e = .returned (.tuple #[v', .int .i64 (addE k r)]) ∧ KAt w' v' (addK k r)) ∧ Below w.heap.size w w'
def StgTo (k : Snk) (n : Int) (w : World) (e : Ending) (w' : World) : Prop := (∃ v' vo, e = .returned (.tuple #[v', .int .i64 (stgE k n)]) ∧ KAt w' v' (stgK k n vo)) ∧ Below w.heap.size w w'
def AboTo (k : Snk) (w : World) (e : Ending) (w' : World) : Prop := (∃ v', e = .returned (.tuple #[v', .int .i64 (aboE k)]) ∧ KAt w' v' (aboK k)) ∧ Below w.heap.size w w'
theorem sadd_all (k : Snk) (r : Res) (hwf : r.Wf) (v : Value) (w : World) (hv : KAt w v k) : Calls Try.prog 30 #[v, r.val] w (AddTo k r w) := by
  unfold AddTo addK addE Snk.right
  cases hr : rightS k.op k.st k.last k.out with
  | false =>
    refine (sadd_no1 _ _ _ _ r v w hv hr).mono ?_
    rintro e w' ⟨rfl, hb⟩
    exact ⟨⟨_, rfl, zK_at _⟩, hb⟩
  | true =>
  cases hm : mayB r with
  | false =>
    refine (sadd_no2 _ _ _ _ r v w hv hr hm).mono ?_
    rintro e w' ⟨rfl, hb⟩
    exact ⟨⟨_, rfl, zK_at _⟩, hb⟩
  | true =>
  by_cases hc : 20000 ≤ cntS k.op k.st k.out
  · refine (sadd_no3 _ _ _ _ r v w hv hr hm hc).mono ?_
    rintro e w' ⟨rfl, hb⟩
    simp only [Bool.and_self, if_true, hc]
    exact ⟨⟨_, rfl, zK_at _⟩, hb⟩
  · refine (sadd_yes _ _ _ _ r v w hv hr hm hwf (by omega)).mono ?_
    rintro e w' ⟨v', rfl, h, hb, -⟩
    simp only [Bool.and_self, if_true, hc, if_false]
    exact ⟨⟨_, rfl, h⟩, hb⟩
theorem room_of {op : List Res} {st : List Stg} {last : Int} {out : List Res} (h : rightS op st last out = true) : roomS op st last out = (20000 - cntS op st out, true) ∧ cntS op st out ≤ 20000 := by
  have hc : cntS op st out ≤ 20000 := by
    unfold rightS headS at h
    simp only [Bool.and_eq_true, decide_eq_true_eq] at h
    exact h.1.2.2.2.1
  unfold roomS
  rw [if_pos h, (cnt_lens hc).2.2.2]
  exact ⟨rfl, by rw [← (cnt_lens hc).2.2.2]; exact hc⟩
theorem radd_all (k : Snk) (r : Res) (hwf : r.Wf) (v : Value) (w : World) (hv : KAt w v k) : Calls Try.prog 31 #[v, r.val] w (AddTo k r w) := by
  unfold AddTo addK addE Snk.right
  cases hr : rightS k.op k.st k.last k.out with
  | false =>
    refine (radd_no1 _ _ _ _ r v w hv hr).mono ?_
    rintro e w' ⟨rfl, hb⟩
    exact ⟨⟨_, rfl, zK_at _⟩, hb⟩
  | true =>
  obtain ⟨h1, h2⟩ := room_of hr
  cases hm : mayB r with
  | false =>
    refine (radd_no2 _ _ _ _ r v w hv _ h1 hm).mono ?_
    rintro e w' ⟨rfl, hb⟩
    exact ⟨⟨_, rfl, zK_at _⟩, hb⟩
  | true =>
  by_cases hc : 20000 ≤ cntS k.op k.st k.out
  · refine (radd_no3 _ _ _ _ r v w hv (by rw [h1]; congr 1; omega) hm).mono ?_
    rintro e w' ⟨rfl, hb⟩
    simp only [Bool.and_self, if_true, hc]
    exact ⟨⟨_, rfl, zK_at _⟩, hb⟩
  · refine (radd_yes _ _ _ _ r v w hv _ (by omega) h1 hm hwf).mono ?_
    rintro e w' ⟨v', rfl, h, hb⟩
    simp only [Bool.and_self, if_true, hc, if_false]
    exact ⟨⟨_, rfl, h⟩, hb⟩
theorem sstg_all (k : Snk) (n : Int) (hn : wfL n) (v : Value) (w : World) (hv : KAt w v k) : Calls Try.prog 32 #[v, .int .i64 n] w (StgTo k n w) := by
  unfold StgTo stgK stgE Snk.right
  cases hr : rightS k.op k.st k.last k.out with
  | false =>
    refine (sstage_no1 _ _ _ _ n hn v w hv _ rfl hr).mono ?_
    rintro e w' ⟨rfl, hb⟩
    exact ⟨⟨_, .int .i64 0, rfl, zK_at _⟩, hb⟩
  | true =>
  by_cases h2 : n ≤ 1073741824
  · by_cases h3 : n ≤ lastN k
    · refine (sstage_no3 _ _ _ _ n hn v w hv (lastN k) rfl hr h2 h3).mono ?_
      rintro e w' ⟨rfl, hb⟩
      simp only [Bool.true_and, decide_eq_true h2, if_true, if_pos h3]
      exact ⟨⟨_, .int .i64 0, rfl, zK_at _⟩, hb⟩
    · by_cases h4 : 8 ≤ k.st.length
      · refine (sstage_no4 _ _ _ _ n hn v w hv (lastN k) rfl hr h2 (by omega) h4).mono ?_
        rintro e w' ⟨rfl, hb⟩
        simp only [Bool.true_and, decide_eq_true h2, if_true, if_neg h3, if_pos h4]
        exact ⟨⟨_, .int .i64 0, rfl, zK_at _⟩, hb⟩
      · refine (sstage_yes _ _ _ _ n hn v w hv (lastN k) rfl hr h2 (by omega) (by omega)).mono ?_
        rintro e w' ⟨⟨v', vo, rfl, h, -⟩, hb⟩
        simp only [Bool.true_and, decide_eq_true h2, if_true, if_neg h3, if_neg h4]
        exact ⟨⟨_, vo, rfl, h⟩, hb⟩
  · refine (sstage_no2 _ _ _ _ n hn v w hv _ rfl hr (by omega)).mono ?_
    rintro e w' ⟨rfl, hb⟩
    simp only [Bool.true_and, decide_eq_false h2, Bool.false_eq_true, if_false]
    exact ⟨⟨_, .int .i64 0, rfl, zK_at _⟩, hb⟩
theorem rstg_all (k : Snk) (n : Int) (hn : wfL n) (v : Value) (w : World) (hv : KAt w v k) : Calls Try.prog 33 #[v, .int .i64 n] w (StgTo k n w) := by
  unfold StgTo stgK stgE Snk.right
  cases hr : rightS k.op k.st k.last k.out with
  | false =>
    refine (rstage_no1 _ _ _ _ n hn v w hv _ rfl hr).mono ?_
    rintro e w' ⟨rfl, hb⟩
    exact ⟨⟨_, .int .i64 0, rfl, zK_at _⟩, hb⟩
  | true =>
  by_cases h2 : n ≤ 1073741824
  · by_cases h3 : n ≤ lastN k
    · refine (rstage_no3 _ _ _ _ n hn v w hv (lastN k) rfl hr h2 h3).mono ?_
      rintro e w' ⟨rfl, hb⟩
      simp only [Bool.true_and, decide_eq_true h2, if_true, if_pos h3]
      exact ⟨⟨_, .int .i64 0, rfl, zK_at _⟩, hb⟩
    · by_cases h4 : 8 ≤ k.st.length
      · refine (rstage_no4 _ _ _ _ n hn v w hv (lastN k) rfl hr h2 (by omega) h4).mono ?_
        rintro e w' ⟨rfl, hb⟩
        simp only [Bool.true_and, decide_eq_true h2, if_true, if_neg h3, if_pos h4]
        exact ⟨⟨_, .int .i64 0, rfl, zK_at _⟩, hb⟩
      · refine (rstage_yes _ _ _ _ n hn v w hv (lastN k) rfl hr h2 (by omega) (by omega)).mono ?_
        rintro e w' ⟨⟨v', vo, rfl, h⟩, hb⟩
        simp only [Bool.true_and, decide_eq_true h2, if_true, if_neg h3, if_neg h4]
        exact ⟨⟨_, vo, rfl, h⟩, hb⟩
  · refine (rstage_no2 _ _ _ _ n hn v w hv _ rfl hr (by omega)).mono ?_
    rintro e w' ⟨rfl, hb⟩
    simp only [Bool.true_and, decide_eq_false h2, Bool.false_eq_true, if_false]
    exact ⟨⟨_, .int .i64 0, rfl, zK_at _⟩, hb⟩
theorem sabo_all (k : Snk) (v : Value) (w : World) (hv : KAt w v k) : Calls Try.prog 39 #[v] w (AboTo k w) := by
  unfold AboTo aboK aboE Snk.right
  cases hr : rightS k.op k.st k.last k.out with
  | false =>
    refine (sabort_no _ _ _ _ v w hv hr).mono ?_
    rintro e w' ⟨rfl, hb⟩
    exact ⟨⟨_, rfl, zK_at _⟩, hb⟩
  | true =>
    refine (sabort_yes _ _ _ _ v w hv hr).mono ?_
    rintro e w' ⟨v', rfl, h, hb, -⟩
    exact ⟨⟨_, rfl, h⟩, hb⟩
theorem rabo_all (k : Snk) (v : Value) (w : World) (hv : KAt w v k) : Calls Try.prog 42 #[v] w (AboTo k w) := by
  unfold AboTo aboK aboE Snk.right
  cases hr : rightS k.op k.st k.last k.out with
  | false =>
    refine (rabort_no _ _ _ _ v w hv hr).mono ?_
    rintro e w' ⟨rfl, hb⟩
    exact ⟨⟨_, rfl, zK_at _⟩, hb⟩
  | true =>
    refine (rabort_yes _ _ _ _ v w hv hr).mono ?_
    rintro e w' ⟨v', rfl, h, hb⟩
    exact ⟨⟨_, rfl, h⟩, hb⟩
theorem like_all (a b : Snk) (h : likeK a b) (va vb : Value) (w : World) (ha : KAt w va a) (hb : KAt w vb b) :
    Calls Try.prog 37 #[va, vb] w fun e w' => e = .returned (.bool true) ∧ Below w.heap.size w w' := by
  obtain ⟨h1, h2, h3, h4⟩ := h
  unfold KAt at ha hb
  rw [← h1, ← h3, ← h4] at hb
  exact like_any _ _ _ _ _ va vb w ha hb h2
theorem sright_all (k : Snk) (v : Value) (w : World) (hv : KAt w v k) : Calls Try.prog 35 #[v] w fun e w' => e = .returned (.bool k.right) ∧ Below w.heap.size w w' := sright_any _ _ _ _ v w hv _ rfl
theorem rright_all (k : Snk) (v : Value) (w : World) (hv : KAt w v k) : Calls Try.prog 36 #[v] w fun e w' => e = .returned (.bool k.right) ∧ Below w.heap.size w w' := rsright_any _ _ _ _ v w hv _ rfl
theorem k_form {W : World} {v : Value} {k : Snk} (h : KAt W v k) : ∃ A1 c1 A2 c2 A3 c3, v = .agg #[.slice A1 k.op.length c1, .slice A2 k.st.length c2, .int .i64 k.last, .slice A3 k.out.length c3] := sink_form h
theorem k_form3 {W : World} {v : Value} {k : Snk} (h : KAt W v k) : ∃ A1 n1 c1 A2 n2 c2 l A3 n3 c3, v = .agg #[.slice A1 n1 c1, .slice A2 n2 c2, .int .i64 l, .slice A3 n3 c3] := by
  obtain ⟨A1, c1, A2, c2, A3, c3, e⟩ := k_form h
  exact ⟨_, _, _, _, _, _, _, _, _, _, e⟩
theorem small_any (k : Snk) (v : Value) (w : World) (hv : KAt w v k) (b : Bool) (hb : decide (k.st.length ≤ 20) = b) : Calls Try.prog 29 #[v] w fun e w' => e = .returned (.bool b) ∧ Below w.heap.size w w' := by
  obtain ⟨vo, vs, vu, ev, -, ⟨-, -, hl⟩, -, -⟩ := id hv
  obtain ⟨A1, c1, A2, c2, A3, c3, rfl⟩ := k_form hv
  unfold maxLen at hl
  have hb2 : decide ((k.st.length : Int) ≤ 20) = b := by rw [← hb]; exact decide_eq_decide.2 (by omega)
  clear hb ev hv
  go_enter Try.func29, Try.ntmps29
  go_wp2_with fail
  go_ret
  refine ⟨?_, bel_alloc (Below.refl _ _) _⟩
  rw [← hb2]
  rfl
end Go.Proofs.Ytenpgkkefielfaa
