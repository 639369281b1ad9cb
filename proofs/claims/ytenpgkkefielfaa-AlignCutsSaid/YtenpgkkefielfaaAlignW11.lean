/-
  WALKS of layer 18: Clone of bools, of rows of items, of items; own.
-/
import Derived.Test.YtenpgkkefielfaaAlignW10
import Derived.Laws.MakeOwn
import Derived.Deep.RegionLaw
import Derived.Deep.DeepCutAuto
set_option linter.unusedVariables false
set_option linter.unusedSimpArgs false
namespace Go.Proofs.Ytenpgkkefielfaa
open Go.RowKit

theorem info_it : (Try.prog.info? 43).map (fun i => (i.zero, i.size, i.bytes)) = some (some (itV itZ), 11, 104) := by kernel_rfl
theorem bCs_one {l : List Bool} : ∀ u ∈ l.flatMap bCs, u.oneCell' = true := by
  intro u hu
  obtain ⟨x, -, hx⟩ := List.mem_flatMap.1 hu
  simp [bCs] at hx
  subst hx
  rfl
theorem Hl.cs_one {W : World} {l : List Hl} (h : ∀ x ∈ l, x.At W) : ∀ u ∈ l.flatMap Hl.cs, u.oneCell' = true := by
  intro u hu
  obtain ⟨x, hm, hx⟩ := List.mem_flatMap.1 hu
  obtain ⟨⟨A, c, e, -, -⟩, -⟩ := h x hm
  simp [Hl.cs] at hx
  subst hx
  rw [e]
  rfl
theorem It.cs_one {l : List It} : ∀ u ∈ l.flatMap It.cs, u.oneCell' = true := by
  intro u hu
  obtain ⟨x, -, hx⟩ := List.mem_flatMap.1 hu
  simp [It.cs] at hx
  rcases hx with rfl | rfl | rfl | rfl | rfl | rfl | rfl | rfl | rfl | rfl | rfl <;> rfl
def ClBTo (l : List Bool) (w : World) (e : Ending) (w' : World) : Prop := ∃ v, e = .returned v ∧ w'.ownsRow w.heap.size 4 1 v l.length (l.flatMap bCs) ∧ Below w.heap.size w w'
set_option maxHeartbeats 1000000 in
set_option maxRecDepth 100000 in
theorem cloneB_any (l : List Bool) (v : Value) (w : World) (hv : Row bCs 1 w v l) (hl : l.length ≤ 1000000) (hone : ∀ u ∈ l.flatMap bCs, u.oneCell' = true) :
    Calls Try.prog 64 #[v] w (ClBTo l w) := by
  obtain ⟨i0, hi, hz0, hz1, hz2⟩ := info_parts info_bl
  have HV := Lib.hid hv
  obtain ⟨A, c, rfl, hc, hA⟩ := hv
  have HA := Lib.hid hA
  have HI := Lib.hid hi
  have HZ0 := Lib.hid hz0
  have HZ1 := Lib.hid hz1
  have HZ2 := Lib.hid hz2
  clear hi hz0 hz1 hz2 hA
  have heq := fun W : World => Lib.run_eql_slice_nil (P := Try.prog) W 24 4 A l.length c 0 0 Try.underlying24
  cases A with
  | none =>
    have hl0 : l = [] := by
      cases l with
      | nil => rfl
      | cons a l =>
        obtain ⟨b, o, h, -⟩ := HA.out (by simp)
        cases h
    subst hl0
    simp only [List.length_nil] at heq ⊢
    go_enter Try.func64, Try.ntmps64
    go_wp2_with fail
    go_ret
    exact ⟨_, rfl, World.ownsRow_nil _ _ _ _, Below.refl _ _⟩
  | some ad =>
    go_enter Try.func64, Try.ntmps64
    go_wp2_with (at_builtin; refine wpList_append_own _ rfl _ _ 24 rfl w.heap.size 4 i0 (.bool false) 1 1 Try.underlying24 HI.out HZ0.out HZ1.out HZ2.out rfl (by decide) _ _ _ rfl (own_empty w w.heap.size 4 1 (Nat.le_refl _)) ad l.length c (l.flatMap bCs) rfl (flat_len bCs_len l) ?c1 ?c2 ?c3 ?c4 ?c5 ?_)
    case c1 =>
      intro j u hj
      have h0 : 0 < l.length := by
        cases l with
        | nil => simp at hj
        | cons a l => simp
      obtain ⟨b, o, h, hb, hx⟩ := HA.out h0
      obtain ⟨i, x, j', h1, h2, rfl⟩ := flat_inv bCs_len hj
      injection h with h
      rw [h, add_at, ← Nat.add_assoc]
      exact (World.cell?_alloc_lt w _ _ hb).trans (hx i x j' u h1 h2)
    case c2 => intro u hu; exact hone u hu
    case c3 => unfold maxLen; omega
    case c4 => omega
    case c5 => simp
    intro v' W3 hown3 hgrow3 _
    have HO3 := Lib.hid hown3
    have HW3 := Lib.hid ((bel_alloc (Below.refl _ w) (.cells #[] 4)).grown hgrow3 (by simp) (fun q hq => by simp [Value.ownBlock] at hq; omega))
    clear hown3 hgrow3
    go_wp2_with fail
    go_ret
    refine ⟨_, rfl, ?_, HW3.out⟩
    simpa using HO3.out
def ClHTo (l : List Hl) (w : World) (e : Ending) (w' : World) : Prop := ∃ v, e = .returned v ∧ w'.ownsRow w.heap.size 32 1 v l.length (l.flatMap Hl.cs) ∧ Below w.heap.size w w'
set_option maxHeartbeats 1000000 in
set_option maxRecDepth 100000 in
theorem cloneH_any (l : List Hl) (v : Value) (w : World) (hv : Row Hl.cs 1 w v l) (hl : l.length ≤ 1000000) (hone : ∀ u ∈ l.flatMap Hl.cs, u.oneCell' = true) :
    Calls Try.prog 65 #[v] w (ClHTo l w) := by
  obtain ⟨i0, hi, hz0, hz1, hz2⟩ := info_parts info_li
  have HV := Lib.hid hv
  obtain ⟨A, c, rfl, hc, hA⟩ := hv
  have HA := Lib.hid hA
  have HI := Lib.hid hi
  have HZ0 := Lib.hid hz0
  have HZ1 := Lib.hid hz1
  have HZ2 := Lib.hid hz2
  clear hi hz0 hz1 hz2 hA
  have heq := fun W : World => Lib.run_eql_slice_nil (P := Try.prog) W 22 32 A l.length c 0 0 Try.underlying22
  cases A with
  | none =>
    have hl0 : l = [] := by
      cases l with
      | nil => rfl
      | cons a l =>
        obtain ⟨b, o, h, -⟩ := HA.out (by simp)
        cases h
    subst hl0
    simp only [List.length_nil] at heq ⊢
    go_enter Try.func65, Try.ntmps65
    go_wp2_with fail
    go_ret
    exact ⟨_, rfl, World.ownsRow_nil _ _ _ _, Below.refl _ _⟩
  | some ad =>
    go_enter Try.func65, Try.ntmps65
    go_wp2_with (at_builtin; refine wpList_append_own _ rfl _ _ 22 rfl w.heap.size 32 i0 (.slice none 0 0) 1 24 Try.underlying22 HI.out HZ0.out HZ1.out HZ2.out rfl (by decide) _ _ _ rfl (own_empty w w.heap.size 32 1 (Nat.le_refl _)) ad l.length c (l.flatMap Hl.cs) rfl (flat_len Hl.cs_len l) ?c1 ?c2 ?c3 ?c4 ?c5 ?_)
    case c1 =>
      intro j u hj
      have h0 : 0 < l.length := by
        cases l with
        | nil => simp at hj
        | cons a l => simp
      obtain ⟨b, o, h, hb, hx⟩ := HA.out h0
      obtain ⟨i, x, j', h1, h2, rfl⟩ := flat_inv Hl.cs_len hj
      injection h with h
      rw [h, add_at, ← Nat.add_assoc]
      exact (World.cell?_alloc_lt w _ _ hb).trans (hx i x j' u h1 h2)
    case c2 => intro u hu; exact hone u hu
    case c3 => unfold maxLen; omega
    case c4 => omega
    case c5 => simp
    intro v' W3 hown3 hgrow3 _
    have HO3 := Lib.hid hown3
    have HW3 := Lib.hid ((bel_alloc (Below.refl _ w) (.cells #[] 32)).grown hgrow3 (by simp) (fun q hq => by simp [Value.ownBlock] at hq; omega))
    clear hown3 hgrow3
    go_wp2_with fail
    go_ret
    refine ⟨_, rfl, ?_, HW3.out⟩
    simpa using HO3.out
def ClITo (l : List It) (w : World) (e : Ending) (w' : World) : Prop := ∃ v, e = .returned v ∧ w'.ownsRow w.heap.size 43 11 v l.length (l.flatMap It.cs) ∧ Below w.heap.size w w'
set_option maxHeartbeats 1000000 in
set_option maxRecDepth 100000 in
theorem cloneI_any (l : List It) (v : Value) (w : World) (hv : Row It.cs 11 w v l) (hl : l.length ≤ 1000000) (hone : ∀ u ∈ l.flatMap It.cs, u.oneCell' = true) :
    Calls Try.prog 47 #[v] w (ClITo l w) := by
  obtain ⟨i0, hi, hz0, hz1, hz2⟩ := info_parts info_it
  have HV := Lib.hid hv
  obtain ⟨A, c, rfl, hc, hA⟩ := hv
  have HA := Lib.hid hA
  have HI := Lib.hid hi
  have HZ0 := Lib.hid hz0
  have HZ1 := Lib.hid hz1
  have HZ2 := Lib.hid hz2
  clear hi hz0 hz1 hz2 hA
  have heq := fun W : World => Lib.run_eql_slice_nil (P := Try.prog) W 32 43 A l.length c 0 0 Try.underlying32
  cases A with
  | none =>
    have hl0 : l = [] := by
      cases l with
      | nil => rfl
      | cons a l =>
        obtain ⟨b, o, h, -⟩ := HA.out (by simp)
        cases h
    subst hl0
    simp only [List.length_nil] at heq ⊢
    go_enter Try.func47, Try.ntmps47
    go_wp2_with fail
    go_ret
    exact ⟨_, rfl, World.ownsRow_nil _ _ _ _, Below.refl _ _⟩
  | some ad =>
    go_enter Try.func47, Try.ntmps47
    go_wp2_with (at_builtin; refine wpList_append_own _ rfl _ _ 32 rfl w.heap.size 43 i0 (.agg #[.int .i64 0, .string ⟨#[]⟩, .int .i64 0, .int .i64 0, .int .i64 0, .int .i64 0, .int .i64 0, .int .i64 0, .string ⟨#[]⟩, .int .i64 0, .int .i64 0]) 11 104 Try.underlying32 HI.out HZ0.out HZ1.out HZ2.out rfl (by decide) _ _ _ rfl (own_empty w w.heap.size 43 11 (Nat.le_refl _)) ad l.length c (l.flatMap It.cs) rfl (flat_len It.cs_len l) ?c1 ?c2 ?c3 ?c4 ?c5 ?_)
    case c1 =>
      intro j u hj
      have h0 : 0 < l.length := by
        cases l with
        | nil => simp at hj
        | cons a l => simp
      obtain ⟨b, o, h, hb, hx⟩ := HA.out h0
      obtain ⟨i, x, j', h1, h2, rfl⟩ := flat_inv It.cs_len hj
      injection h with h
      rw [h, add_at, ← Nat.add_assoc]
      exact (World.cell?_alloc_lt w _ _ hb).trans (hx i x j' u h1 h2)
    case c2 => intro u hu; exact hone u hu
    case c3 => unfold maxLen; omega
    case c4 => omega
    case c5 => simp
    intro v' W3 hown3 hgrow3 _
    have HO3 := Lib.hid hown3
    have HW3 := Lib.hid ((bel_alloc (Below.refl _ w) (.cells #[] 43)).grown hgrow3 (by simp) (fun q hq => by simp [Value.ownBlock] at hq; omega))
    clear hown3 hgrow3
    go_wp2_with fail
    go_ret
    refine ⟨_, rfl, ?_, HW3.out⟩
    simpa using HO3.out
end Go.Proofs.Ytenpgkkefielfaa
