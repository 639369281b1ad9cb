/-
  WALKS of the law TopDue: two timers change places.
-/
import Derived.Test.YtlboehpgpbchhaaDueW1
import Derived.Test.YtlboehpgpbchhaaTopW15
set_option linter.unusedVariables false
set_option linter.unusedSimpArgs false
namespace Go.Proofs.Ytlboehpgpbchhaa
open Go.RowKit

theorem own_updT {W : World} {base g n c : Nat} {l : List Tm} (h : W.ownsRow base 62 2 (.slice (some ⟨g, 0, none⟩) n c) n (l.flatMap Tm.cs)) {i : Nat} {x : Tm} (hx : l[i]? = some x) (a : Int) (b : ByteArray) :
    ((W.setCell ⟨g, i * 2, none⟩ (.int .i64 a)).setCell ⟨g, i * 2 + 1, none⟩ (.string b)).ownsRow base 62 2 (.slice (some ⟨g, 0, none⟩) n c) n ((l.set i ⟨a, b⟩).flatMap Tm.cs) := by
  have h1 := (h.stored (i * 2) (.int .i64 a)).1
  rw [show i * 2 = i * 2 + 0 from rfl, flat_set Tm.cs_len (x' := ⟨a, x.s⟩) hx (by decide) rfl] at h1
  have h2 := (h1.stored (i * 2 + 1) (.string b)).1
  have hx2 : (l.set i ⟨a, x.s⟩)[i]? = some ⟨a, x.s⟩ := by rw [List.getElem?_set_self (List.getElem?_eq_some_iff.1 hx).1]
  rw [flat_set Tm.cs_len (x' := ⟨a, b⟩) hx2 (by decide) rfl, List.set_set] at h2
  exact h2
/-- Two elements change places. -/
def swpL (l : List Tm) (i j : Nat) : List Tm := match l[i]?, l[j]? with
  | some x, some y => (l.set i y).set j x
  | _, _ => l
theorem swpL_eq {l : List Tm} {i j : Nat} {x y : Tm} (hx : l[i]? = some x) (hy : l[j]? = some y) : swpL l i j = (l.set i y).set j x := by unfold swpL; rw [hx, hy]
theorem swpL_len (l : List Tm) (i j : Nat) : (swpL l i j).length = l.length := by
  unfold swpL
  split <;> simp
/-- What row.Swap leaves. -/
def SwTo (base : Nat) (v : Value) (l : List Tm) (i j : Nat) (w : World) (e : Ending) (w' : World) : Prop :=
  e = .returned (.tuple #[]) ∧ w'.ownsRow base 62 2 v l.length ((swpL l i j).flatMap Tm.cs) ∧ w.grownBy w' v.ownBlock
set_option maxRecDepth 100000 in
set_option maxHeartbeats 4000000 in
theorem tswap_any (base : Nat) (l : List Tm) (v : Value) (w : World) (hown : w.ownsRow base 62 2 v l.length (l.flatMap Tm.cs)) (hl : l.length ≤ 1000000) (i j : Nat) (hi : i < l.length) (hj : j < l.length) :
    Calls Try.prog 149 #[v, .int .i64 i, .int .i64 j] w (SwTo base v l i j w) := by
  have HO2 := Lib.hid hown
  obtain ⟨A, c, rfl⟩ := own_slice hown
  obtain ⟨n, hn⟩ : ∃ n, l.length = n := ⟨_, rfl⟩
  obtain ⟨x, hx⟩ : ∃ x, l[i]? = some x := ⟨_, List.getElem?_eq_getElem hi⟩
  obtain ⟨y, hy⟩ : ∃ y, l[j]? = some y := ⟨_, List.getElem?_eq_getElem hj⟩
  have HN := Lib.hid hn
  rw [hn] at HO2 hl hi hj ⊢
  clear hown hn
  obtain ⟨g, c', hv', hg1, hg2, hnc⟩ := own_form HO2.out (by omega)
  injection hv' with e1 e2 e3
  subst e1 e3
  have hrow := Row.of_own Tm.cs_len HO2.out HN.out.symm
  obtain ⟨b1, o1, c1, hv1, -, -, hX⟩ := hrow.at_ hx
  rw [HN.out] at hv1
  injection hv1 with e1 e2 e3
  injection e1 with e1
  injection e1 with e1 e4 e5
  subst e1 e4 e3
  obtain ⟨b1, o1, c1, hv1, -, -, hY⟩ := hrow.at_ hy
  rw [HN.out] at hv1
  injection hv1 with e1 e2 e3
  injection e1 with e1
  injection e1 with e1 e4 e5
  subst e1 e4 e3
  have r0 := hX 0 _ rfl
  have r1 := hX 1 _ rfl
  have s0 := hY 0 _ rfl
  have s1 := hY 1 _ rfl
  simp only [Nat.zero_add, Nat.add_zero] at r0 r1 s0 s1
  obtain ⟨fz, hfz⟩ : ∃ cur, w.heap[g]? = some (.cells cur 62 (0, 0)) := by
    rcases HO2.out.2 with ⟨e, -⟩ | ⟨g', cap', cur', hv', -, hg', -⟩
    · cases e
    · injection hv' with e1
      injection e1 with e1
      injection e1 with e1
      subst e1
      exact ⟨_, hg'⟩
  have f0 := frozAt hfz
  have HX := Lib.hid hx
  have HY := Lib.hid hy
  clear hX hY hrow hx hy hfz e2 e5
  obtain ⟨xa, xs⟩ := x
  obtain ⟨ya, ys⟩ := y
  try simp only at r0 r1 s0 s1
  by_cases hij : i = j
  · subst hij
    have he := HX.out.symm.trans HY.out
    injection he with he
    injection he with h1 h2
    subst h1 h2
    clear s0 s1
    go_enter Try.func149, Try.ntmps149
    go_region
    have O1 := own_updT HO2.out HX.out xa xs
    have O2 := own_updT O1 (i := i) (x := ⟨xa, xs⟩) (by rw [List.getElem?_set_self (List.getElem?_eq_some_iff.1 HX.out).1]) xa xs
    have G1 := gby_set (gby_set (gby_set (gby_set (show w.grownBy w (some g) from ⟨rfl, rfl, rfl, Nat.le_refl _, fun _ _ _ => rfl⟩) (i * 2) (.int .i64 xa)) (i * 2 + 1) (.string xs)) (i * 2) (.int .i64 xa)) (i * 2 + 1) (.string xs)
    go_end0
    refine ⟨rfl, ?_, gby_drew G1⟩
    rw [HN.out, swpL_eq HX.out HY.out]
    exact O2
  · go_enter Try.func149, Try.ntmps149
    go_region
    have O1 := own_updT HO2.out HX.out ya ys
    have O2 := own_updT O1 (i := j) (x := ⟨ya, ys⟩) (by rw [List.getElem?_set_ne hij]; exact HY.out) xa xs
    have G1 := gby_set (gby_set (gby_set (gby_set (show w.grownBy w (some g) from ⟨rfl, rfl, rfl, Nat.le_refl _, fun _ _ _ => rfl⟩) (i * 2) (.int .i64 ya)) (i * 2 + 1) (.string ys)) (j * 2) (.int .i64 xa)) (j * 2 + 1) (.string xs)
    go_end0
    refine ⟨rfl, ?_, gby_drew G1⟩
    rw [HN.out, swpL_eq HX.out HY.out]
    exact O2
end Go.Proofs.Ytlboehpgpbchhaa
