/-
  WALKS of the top laws: inputs of one source; what is checked ahead of a run.
-/
import Derived.Test.YtlboehpgpbchhaaTopW2
set_option linter.unusedVariables false
set_option linter.unusedSimpArgs false
namespace Go.Proofs.Ytlboehpgpbchhaa
open Go.RowKit

/-- A row of one row of events. -/
structure In1 (W : World) (v : Value) (l : List Ev) : Prop where
  h : ∃ b o c A c', v = .slice (some ⟨b, o, none⟩) 1 c ∧ b < W.heap.size ∧ W.cell? ⟨b, o, none⟩ = some (.slice A l.length c') ∧ Row Ev.cs 3 W (.slice A l.length c') l
  wf : ∀ x ∈ l, x.Wf
  len : l.length ≤ maxLen
theorem In1.below {W W' : World} {v : Value} {l : List Ev} (h : In1 W v l) (hb : Below W.heap.size W W') : In1 W' v l := by
  obtain ⟨⟨b, o, c, A, c', e, h1, h2, h3⟩, h4, h5⟩ := h
  exact ⟨⟨b, o, c, A, c', e, Nat.lt_of_lt_of_le h1 hb.size, (hb.cell (p := ⟨b, o, none⟩) h1).trans h2, h3.below hb⟩, h4, h5⟩
def IiRel (l : List Ev) (w : World) (i : Value) (wr : World) : Prop := ∃ k : Nat, k ≤ 1 ∧ i = .int .i64 k ∧ (k = 1 → inB l = true) ∧ Below w.heap.size w wr
theorem iindex_any (l : List Ev) (v : Value) (w : World) (hv : In1 w v l) :
    Calls Try.prog 105 #[v, .func (.func 94) #[] #[]] w fun e w' => ∃ r : Int, e = .returned (.int .i64 r) ∧ decide (0 ≤ r) = (!inB l) ∧ Below w.heap.size w w' := by
  obtain ⟨q, hq⟩ : ∃ q, inB l = q := ⟨_, rfl⟩
  have HQ := Lib.hid hq
  have HV := Lib.hid hv
  obtain ⟨⟨b, o, c, A, c', rfl, h1, h2, h3⟩, h4, h5⟩ := hv
  have HP := Lib.hid (fun w' (hb : Below w.heap.size w w') => notin_any l (.slice A l.length c') w' (h3.below hb) h4 h5 q hq)
  obtain ⟨n, hn⟩ : ∃ n, l.length = n := ⟨_, rfl⟩
  rw [hn] at h2 HP
  have H2 := Lib.hid h2
  clear hq h3 h4 h5 hn h2
  go_enter Try.func105, Try.ntmps105
  go_wp2_with fail
  go_loopw [8] (fun i wr => IiRel l w i wr) (fun i _ => 1 - (intOf i).toNat)
  case atStart => exact ⟨0, Nat.zero_le _, rfl, by simp, Below.refl _ _⟩
  case round =>
    obtain ⟨k, hk, rfl, hall, hbel⟩ := hrel
    have HB := Lib.hid hbel
    have HL := Lib.hid hall
    clear hbel hall
    by_cases hlt : k < 1
    · obtain rfl : k = 0 := by omega
      have c0 := (HB.out.cell (p := ⟨b, o, none⟩) h1).trans H2.out
      go_wp2_with fail
      refine (HP.out _ HB.out).mono ?_
      rintro e w2 ⟨rfl, hb2⟩
      have HB2 := Lib.hid (bThen HB.out hb2)
      clear hb2 HB c0
      cases q with
      | true =>
        go_wp2_with fail
        go_roundw
        case rel => exact ⟨1, Nat.le_refl _, by go_num, fun _ => HQ.out, HB2.out⟩
        case measure => simp [intOf]
      | false =>
        go_wp2_with fail
        go_ret
        exact ⟨_, rfl, by rw [HQ.out]; simp, HB2.out⟩
    · obtain rfl : k = 1 := by omega
      go_wp2_with fail
      go_ret
      exact ⟨_, rfl, by rw [HL.out (by simp)]; decide, HB.out⟩
theorem inputs_any (l : List Ev) (v : Value) (w : World) (hv : In1 w v l) : Calls Try.prog 83 #[v] w fun e w' => e = .returned (.bool (inB l)) ∧ Below w.heap.size w w' := by
  have HI := Lib.hid (iindex_any l v w hv)
  obtain ⟨q, hq⟩ : ∃ q, inB l = q := ⟨_, rfl⟩
  rw [hq] at HI ⊢
  obtain ⟨⟨b, o, c, A, c', rfl, -⟩, -, -⟩ := hv
  clear hq
  go_enter Try.func83, Try.ntmps83
  go_wp2_with (first | (go_at_call 93; fail) | (go_at_call 105; refine (HI.out).mono ?_; rintro e w2 ⟨r, rfl, hr, hb2⟩) | go_in)
  go_ret
  exact ⟨rfl, hb2⟩
def ckE (j : Jb) (l : List Ev) : Int := if jR j then (if inB l then 0 else 1) else 130
theorem check_any (j : Jb) (l : List Ev) (v : Value) (w : World) (hv : In1 w v l) : Calls Try.prog 67 #[.agg j.cs, v] w fun e w' => e = .returned (.int .i64 (ckE j l)) ∧ Below w.heap.size w w' := by
  have HJ := Lib.hid (fun w => jright_any j w)
  have HI := Lib.hid (fun w' (hb : Below w.heap.size w w') => inputs_any l v w' (hv.below hb))
  obtain ⟨b, o, c, A, c', rfl, -⟩ := hv.h
  unfold ckE
  obtain ⟨q, hq⟩ : ∃ q, jR j = q := ⟨_, rfl⟩
  obtain ⟨p, hp⟩ : ∃ q, inB l = q := ⟨_, rfl⟩
  rw [hq] at HJ ⊢
  rw [hp] at HI ⊢
  obtain ⟨g, s, d, f, u, ll, y, i⟩ := j
  unfold Jb.cs at HJ ⊢
  simp only at HJ
  clear hq hp hv
  go_enter Try.func67, Try.ntmps67
  go_wp2_with fail
  refine (HJ.out _).mono ?_
  rintro e w2 ⟨rfl, hb2⟩
  have HB := Lib.hid (belA (Below.refl _ _) hb2)
  clear hb2
  cases q with
  | false =>
    go_wp2_with fail
    go_ret
    exact ⟨rfl, HB.out⟩
  | true =>
    go_wp2_with fail
    refine (HI.out _ HB.out).mono ?_
    rintro e w3 ⟨rfl, hb3⟩
    have HB3 := Lib.hid (bThen HB.out hb3)
    clear hb3
    cases p with
    | false =>
      go_wp2_with fail
      go_ret
      exact ⟨rfl, HB3.out⟩
    | true =>
      go_wp2_with fail
      go_ret
      exact ⟨rfl, HB3.out⟩
end Go.Proofs.Ytlboehpgpbchhaa
