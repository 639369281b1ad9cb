/-
  WALKS of the top laws: panes cloned.
-/
import Derived.Test.YtlboehpgpbchhaaTopW10
import Derived.Test.YtlboehpgpbchhaaInsPane
set_option linter.unusedVariables false
set_option linter.unusedSimpArgs false
namespace Go.Proofs.Ytlboehpgpbchhaa
open Go.RowKit

theorem Pn.cs_one {l : List Pn} : ∀ u ∈ l.flatMap Pn.cs, u.oneCell' = true := by
  intro u hu
  obtain ⟨x, -, hx⟩ := List.mem_flatMap.1 hu
  simp [Pn.cs] at hx
  rcases hx with rfl | rfl | rfl | rfl | rfl | rfl <;> rfl
def CnTo (l : List Pn) (w : World) (e : Ending) (w' : World) : Prop := ∃ v, e = .returned v ∧ w'.ownsRow w.heap.size 59 6 v l.length (l.flatMap Pn.cs) ∧ Below w.heap.size w w'
set_option maxHeartbeats 1000000 in
set_option maxRecDepth 100000 in
theorem pclone_any (l : List Pn) (v : Value) (w : World) (hv : Row Pn.cs 6 w v l) (hl : l.length ≤ 1000000) :
    Calls Try.prog 73 #[v] w (CnTo l w) := by
  obtain ⟨i0, hi, hz0, hz1, hz2⟩ := info_parts pninfo
  have HV := Lib.hid hv
  obtain ⟨A, c, rfl, hc, hA⟩ := hv
  have HA := Lib.hid hA
  have HI := Lib.hid hi
  have HZ0 := Lib.hid hz0
  have HZ1 := Lib.hid hz1
  have HZ2 := Lib.hid hz2
  clear hi hz0 hz1 hz2 hA
  have heq := fun W : World => Lib.run_eql_slice_nil (P := Try.prog) W 47 59 A l.length c 0 0 Try.underlying47
  cases A with
  | none =>
    have hl0 : l = [] := by
      cases l with
      | nil => rfl
      | cons a l =>
        obtain ⟨b, o, h, -⟩ := HA.out (by simp)
        cases h
    subst hl0
    simp only [List.length_nil] at heq ⊢
    go_enter Try.func73, Try.ntmps73
    go_wp2_with fail
    go_ret
    exact ⟨_, rfl, World.ownsRow_nil _ _ _ _, Below.refl _ _⟩
  | some ad =>
    go_enter Try.func73, Try.ntmps73
    go_wp2_with (at_builtin; refine wpList_append_own _ rfl _ _ 47 rfl w.heap.size 59 i0 (.agg #[.int .i64 0, .int .i64 0, .string ⟨#[]⟩, .int .i64 0, .int .i64 0, .int .i64 0]) 6 56 Try.underlying47 HI.out HZ0.out HZ1.out HZ2.out rfl (by decide) _ _ _ rfl (own_empty w w.heap.size 59 6 (Nat.le_refl _)) ad l.length c (l.flatMap Pn.cs) rfl (flat_len Pn.cs_len l) ?c1 ?c2 ?c3 ?c4 ?c5 ?_)
    case c1 =>
      intro j u hj
      have h0 : 0 < l.length := by
        cases l with
        | nil => simp at hj
        | cons a l => simp
      obtain ⟨b, o, h, hb, hx⟩ := HA.out h0
      obtain ⟨i, x, j', h1, h2, rfl⟩ := flat_inv Pn.cs_len hj
      injection h with h
      rw [h, add_at, ← Nat.add_assoc]
      exact (World.cell?_alloc_lt w _ _ hb).trans (hx i x j' u h1 h2)
    case c2 => intro u hu; exact Pn.cs_one u hu
    case c3 => unfold maxLen; omega
    case c4 => omega
    case c5 => simp
    intro v' W3 hown3 hgrow3 _
    have HO3 := Lib.hid hown3
    have HW3 := Lib.hid ((bel_alloc (Below.refl _ w) (.cells #[] 59)).grown hgrow3 (by simp) (fun q hq => by simp [Value.ownBlock] at hq; omega))
    clear hown3 hgrow3
    go_wp2_with fail
    go_ret
    refine ⟨_, rfl, ?_, HW3.out⟩
    simpa using HO3.out
end Go.Proofs.Ytlboehpgpbchhaa
