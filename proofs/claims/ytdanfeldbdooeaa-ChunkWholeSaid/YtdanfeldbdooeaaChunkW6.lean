/-
  WALKS of layer 20: find, Clone, Insert at the end, may.
-/
import Derived.Test.YtdanfeldbdooeaaChunkW5
import Derived.Test.YtdanfeldbdooeaaRowsArg
set_option linter.unusedVariables false
set_option linter.unusedSimpArgs false
namespace Go.Proofs.Ytdanfeldbdooeaa
open Go.RowKit

theorem Ck.cs_one {l : List Ck} : ∀ u ∈ l.flatMap Ck.cs, u.oneCell' = true := by
  intro u hu
  obtain ⟨x, -, hx⟩ := List.mem_flatMap.1 hu
  simp [Ck.cs] at hx
  rcases hx with rfl | rfl | rfl | rfl <;> rfl

def ClCTo (l : List Ck) (w : World) (e : Ending) (w' : World) : Prop := ∃ v, e = .returned v ∧ w'.ownsRow w.heap.size 56 4 v l.length (l.flatMap Ck.cs) ∧ Below w.heap.size w w'
set_option maxHeartbeats 1000000 in
set_option maxRecDepth 100000 in
theorem cloneC_any (l : List Ck) (v : Value) (w : World) (hv : Row Ck.cs 4 w v l) (hl : l.length ≤ 1000000) :
    Calls Try.prog 64 #[v] w (ClCTo l w) := by
  obtain ⟨i0, hi, hz0, hz1, hz2⟩ := info_parts info_ck
  have HV := Lib.hid hv
  obtain ⟨A, c, rfl, hc, hA⟩ := hv
  have HA := Lib.hid hA
  have HI := Lib.hid hi
  have HZ0 := Lib.hid hz0
  have HZ1 := Lib.hid hz1
  have HZ2 := Lib.hid hz2
  clear hi hz0 hz1 hz2 hA
  have heq := fun W : World => Lib.run_eql_slice_nil (P := Try.prog) W 50 56 A l.length c 0 0 Try.underlying50
  cases A with
  | none =>
    have hl0 : l = [] := by
      cases l with
      | nil => rfl
      | cons a l =>
        obtain ⟨b, o, h, -⟩ := HA.out (by simp)
        cases h
    subst hl0
    simp only [List.length_nil] at heq ⊢
    go_enter Try.func64, Try.ntmps64
    go_wp2_with fail
    go_ret
    exact ⟨_, rfl, World.ownsRow_nil _ _ _ _, Below.refl _ _⟩
  | some ad =>
    go_enter Try.func64, Try.ntmps64
    go_wp2_with (at_builtin; refine wpList_append_own _ rfl _ _ 50 rfl w.heap.size 56 i0 (.agg #[.int .i64 0, .int .i64 0, .int .i64 0, .string ⟨#[]⟩]) 4 40 Try.underlying50 HI.out HZ0.out HZ1.out HZ2.out rfl (by decide) _ _ _ rfl (own_empty w w.heap.size 56 4 (Nat.le_refl _)) ad l.length c (l.flatMap Ck.cs) rfl (flat_len Ck.cs_len l) ?c1 ?c2 ?c3 ?c4 ?c5 ?_)
    case c1 =>
      intro j u hj
      have h0 : 0 < l.length := by
        cases l with
        | nil => simp at hj
        | cons a l => simp
      obtain ⟨b, o, h, hb, hx⟩ := HA.out h0
      obtain ⟨i, x, j', h1, h2, rfl⟩ := flat_inv Ck.cs_len hj
      injection h with h
      rw [h, add_at, ← Nat.add_assoc]
      exact (World.cell?_alloc_lt w _ _ hb).trans (hx i x j' u h1 h2)
    case c2 => intro u hu; exact Ck.cs_one u hu
    case c3 => unfold maxLen; omega
    case c4 => omega
    case c5 => simp
    intro v' W3 hown3 hgrow3 _
    have HO3 := Lib.hid hown3
    have HW3 := Lib.hid ((bel_alloc (Below.refl _ w) (.cells #[] 56)).grown hgrow3 (by simp) (fun q hq => by simp [Value.ownBlock] at hq; omega))
    clear hown3 hgrow3
    go_wp2_with fail
    go_ret
    refine ⟨_, rfl, ?_, HW3.out⟩
    simpa using HO3.out

set_option maxHeartbeats 1000000 in
theorem find_any (l : List Ck) (g o t : Int) (v : Value) (w : World) (hv : Row Ck.cs 4 w v l) (hl : l.length ≤ 1000000) (hs : srtC l) :
    Calls Try.prog 62 #[.agg #[.int .i64 g, .int .i64 o, v], .int .i64 t] w (SearchTo l t w) := by
  have HV := Lib.hid hv
  have HC := Lib.hid (fun W (h : Row Ck.cs 4 W v l) => search_any l t v W h hl hs)
  clear hv
  go_enter Try.func62, Try.ntmps62
  go_wp2_with fail
  refine (HC.out _ (HV.out.alloc _)).mono ?_
  rintro e w1 ⟨i, hi, rfl, ha, hb⟩
  have HA := Lib.hid ha
  have HI := Lib.hid hi
  have HB := Lib.hid (belA (Below.refl _ _) hb)
  clear ha hi hb
  go_wp2_with fail
  go_ret2
  exact ⟨i, HI.out, rfl, HA.out, HB.out⟩
def mayB (c : Ck) : Bool :=
  (decide (0 ≤ c.g) && decide (c.g < 32)) && (decide (1 ≤ c.of_) && (decide (c.of_ ≤ 512) && (decide (0 ≤ c.no) && (decide (c.no < c.of_) &&
    (if c.no < c.of_ - 1 then decide (c.b.size = 256) else decide (c.b.size ≤ 256) && (decide (0 < c.b.size) || decide (c.of_ = 1)))))))
set_option maxHeartbeats 2000000 in
theorem may_any (c : Ck) (w : World) (b : Bool) (hb : mayB c = b) (hs : c.b.size ≤ 9223372036854775807) (ho : -9223372036854775808 ≤ c.of_ ∧ c.of_ ≤ 9223372036854775807) :
    Calls Try.prog 61 #[.agg #[.int .i64 c.g, .int .i64 c.no, .int .i64 c.of_, .string c.b]] w fun e w' => e = .returned (.bool b) ∧ Below w.heap.size w w' := by
  obtain ⟨g, no, of_, s⟩ := c
  unfold mayB at hb
  simp only at hb hs ho ⊢
  obtain ⟨q, hq⟩ : ∃ q, (decide (0 ≤ g) && decide (g < 32)) = q := ⟨_, rfl⟩
  rw [hq] at hb
  have HG := Lib.hid (fun W => group_any g W q hq)
  clear hq
  obtain ⟨n, hn⟩ : ∃ n : Nat, s.size = n := ⟨_, rfl⟩
  rw [hn] at hb hs
  have Hn := Lib.hid hn
  cases q with
  | false =>
    rw [Bool.false_and] at hb
    subst hb
    clear hn
    go_enter Try.func61, Try.ntmps61
    go_wp2_with fail
    refine (HG.out _).mono ?_
    rintro e w1 ⟨rfl, rfl⟩
    go_wp2_with fail
    go_ret
    exact ⟨rfl, bel_alloc (Below.refl _ _) _⟩
  | true =>
    rw [Bool.true_and] at hb
    by_cases h1 : 1 ≤ of_
    rotate_left
    · rw [decide_eq_false h1, Bool.false_and] at hb
      subst hb
      clear hn
      go_enter Try.func61, Try.ntmps61
      go_wp2_with fail
      refine (HG.out _).mono ?_
      rintro e w1 ⟨rfl, rfl⟩
      go_wp2_with fail
      go_ret
      exact ⟨rfl, bel_alloc (Below.refl _ _) _⟩
    rw [decide_eq_true h1, Bool.true_and] at hb
    by_cases h2 : of_ ≤ 512
    rotate_left
    · rw [decide_eq_false h2, Bool.false_and] at hb
      subst hb
      clear hn
      go_enter Try.func61, Try.ntmps61
      go_wp2_with fail
      refine (HG.out _).mono ?_
      rintro e w1 ⟨rfl, rfl⟩
      go_wp2_with fail
      go_ret
      exact ⟨rfl, bel_alloc (Below.refl _ _) _⟩
    rw [decide_eq_true h2, Bool.true_and] at hb
    by_cases h3 : 0 ≤ no
    rotate_left
    · rw [decide_eq_false h3, Bool.false_and] at hb
      subst hb
      clear hn
      go_enter Try.func61, Try.ntmps61
      go_wp2_with fail
      refine (HG.out _).mono ?_
      rintro e w1 ⟨rfl, rfl⟩
      go_wp2_with fail
      go_ret
      exact ⟨rfl, bel_alloc (Below.refl _ _) _⟩
    rw [decide_eq_true h3, Bool.true_and] at hb
    by_cases h4 : no < of_
    rotate_left
    · rw [decide_eq_false h4, Bool.false_and] at hb
      subst hb
      clear hn
      go_enter Try.func61, Try.ntmps61
      go_wp2_with fail
      refine (HG.out _).mono ?_
      rintro e w1 ⟨rfl, rfl⟩
      go_wp2_with fail
      go_ret
      exact ⟨rfl, bel_alloc (Below.refl _ _) _⟩
    rw [decide_eq_true h4, Bool.true_and] at hb
    by_cases h5 : no < of_ - 1
    · rw [if_pos h5] at hb
      have hbe : ((n : Int) == 256) = b := by rw [← hb, Bool.eq_iff_iff]; simp; omega
      clear hb
      have HE := Lib.hid hbe
      clear hbe
      go_enter Try.func61, Try.ntmps61
      go_wp2_with fail
      refine (HG.out _).mono ?_
      rintro e w1 ⟨rfl, rfl⟩
      go_wp2_with fail
      go_ret
      exact ⟨by rw [← HE.out]; rfl, bel_alloc (Below.refl _ _) _⟩
    · rw [if_neg h5] at hb
      by_cases h6 : n ≤ 256
      rotate_left
      · rw [decide_eq_false h6, Bool.false_and] at hb
        subst hb
        go_enter Try.func61, Try.ntmps61
        go_wp2_with fail
        refine (HG.out _).mono ?_
        rintro e w1 ⟨rfl, rfl⟩
        go_wp2_with fail
        go_ret
        exact ⟨rfl, bel_alloc (Below.refl _ _) _⟩
      rw [decide_eq_true h6, Bool.true_and] at hb
      by_cases h7 : 0 < n
      · rw [decide_eq_true h7, Bool.true_or] at hb
        subst hb
        go_enter Try.func61, Try.ntmps61
        go_wp2_with fail
        refine (HG.out _).mono ?_
        rintro e w1 ⟨rfl, rfl⟩
        go_wp2_with fail
        go_ret
        exact ⟨rfl, bel_alloc (Below.refl _ _) _⟩
      · rw [decide_eq_false h7, Bool.false_or] at hb
        have hbe : (of_ == 1) = b := by rw [← hb, Bool.eq_iff_iff]; simp
        clear hb
        have HE := Lib.hid hbe
        clear hbe
        go_enter Try.func61, Try.ntmps61
        go_wp2_with fail
        refine (HG.out _).mono ?_
        rintro e w1 ⟨rfl, rfl⟩
        go_wp2_with fail
        go_ret
        exact ⟨by rw [← HE.out]; rfl, bel_alloc (Below.refl _ _) _⟩
end Go.Proofs.Ytdanfeldbdooeaa
