/-
  WALKS of the top laws: windows are turned round.
-/
import Derived.Test.YtlboehpgpbchhaaTopW5
import Derived.Deep.DeepCutAuto
set_option linter.unusedVariables false
set_option linter.unusedSimpArgs false
namespace Go.Proofs.Ytlboehpgpbchhaa
open Go.RowKit

/-- A window. -/
structure Wn where
  lo : Int
  hi : Int
def Wn.cs (x : Wn) : List Value := [.int .i64 x.lo, .int .i64 x.hi]
theorem Wn.cs_len (x : Wn) : x.cs.length = 2 := rfl
theorem own_updW {W : World} {base g n c : Nat} {l : List Wn} (h : W.ownsRow base 55 2 (.slice (some ⟨g, 0, none⟩) n c) n (l.flatMap Wn.cs)) {i : Nat} {x : Wn} (hx : l[i]? = some x) (a b : Int) :
    ((W.setCell ⟨g, i * 2, none⟩ (.int .i64 a)).setCell ⟨g, i * 2 + 1, none⟩ (.int .i64 b)).ownsRow base 55 2 (.slice (some ⟨g, 0, none⟩) n c) n ((l.set i ⟨a, b⟩).flatMap Wn.cs) := by
  have h1 := (h.stored (i * 2) (.int .i64 a)).1
  rw [show i * 2 = i * 2 + 0 from rfl, flat_set Wn.cs_len (x' := ⟨a, x.hi⟩) hx (by decide) rfl] at h1
  have h2 := (h1.stored (i * 2 + 1) (.int .i64 b)).1
  have hx2 : (l.set i ⟨a, x.hi⟩)[i]? = some ⟨a, x.hi⟩ := by rw [List.getElem?_set_self (List.getElem?_eq_some_iff.1 hx).1]
  rw [flat_set Wn.cs_len (x' := ⟨a, b⟩) hx2 (by decide) rfl, List.set_set] at h2
  exact h2
/-- What slices.Reverse leaves. -/
def RvTo (base : Nat) (v : Value) (l : List Wn) (w : World) (e : Ending) (w' : World) : Prop :=
  (∃ l' : List Wn, w'.ownsRow base 55 2 v l.length (l'.flatMap Wn.cs) ∧ l'.length = l.length ∧ ∀ x ∈ l', x ∈ l) ∧ (∃ u, e = .returned u) ∧ w.grownBy w' v.ownBlock
def RvRel (base : Nat) (v : Value) (l : List Wn) (w : World) (vi vj : Value) (wr : World) : Prop :=
  ∃ (i : Nat) (l' : List Wn), vi = .int .i64 i ∧ vj = .int .i64 ((l.length : Int) - 1 - i) ∧ 2 * i ≤ l.length ∧ wr.ownsRow base 55 2 v l.length (l'.flatMap Wn.cs) ∧ l'.length = l.length ∧ (∀ x ∈ l', x ∈ l) ∧ w.grownBy wr v.ownBlock
theorem gby_set {w wr : World} {g : Nat} (h : w.grownBy wr (some g)) (j : Nat) (u : Value) : w.grownBy (wr.setCell ⟨g, j, none⟩ u) (some g) :=
  ⟨h.os, h.tape, h.output, by simpa [World.setCell] using h.size, fun k hk hne => by rw [Below.heap_setCell _ _ _ k (fun e => hne (by rw [e]))]; exact h.block k hk hne⟩
theorem gby_drew {w wr : World} {r : Option Nat} (h : w.grownBy wr r) : w.grownBy wr.drew r := ⟨h.os, h.tape, h.output, h.size, h.block⟩
set_option maxRecDepth 100000 in
set_option maxHeartbeats 4000000 in
theorem wreverse_any (base : Nat) (l : List Wn) (v : Value) (w : World) (hown : w.ownsRow base 55 2 v l.length (l.flatMap Wn.cs)) (hl : l.length ≤ 1000000) :
    Calls Try.prog 101 #[v] w (RvTo base v l w) := by
  have HO := Lib.hid hown
  obtain ⟨A, c, rfl⟩ := own_slice hown
  obtain ⟨n, hn⟩ : ∃ n, l.length = n := ⟨_, rfl⟩
  have HN := Lib.hid hn
  rw [hn] at HO hl ⊢
  clear hown hn
  go_enter Try.func101, Try.ntmps101
  go_wp2_with fail
  go_loopw [2, 3] (fun vi vj wr => RvRel base (.slice A n c) l w vi vj wr) (fun vi _ _ => n - (intOf vi).toNat)
  case atStart => exact ⟨0, l, rfl, by rw [HN.out]; simp, by omega, by rw [HN.out]; exact HO.out, rfl, fun x h => h, ⟨rfl, rfl, rfl, Nat.le_refl _, fun _ _ _ => rfl⟩⟩
  case round =>
    obtain ⟨i, l', rfl, rfl, hi, ho, hlen, hsub, hgr⟩ := hrel
    have HO2 := Lib.hid ho
    have HG := Lib.hid hgr
    have HS := Lib.hid hsub
    rw [HN.out] at HO2 hi hlen ⊢
    have HLN := Lib.hid hlen
    clear ho hgr hsub hlen HO
    by_cases hlt : 2 * i + 1 < n
    · have hd : decide ((i : Int) < (n : Int) - 1 - (i : Int)) = true := decide_eq_true (by omega)
      obtain ⟨j, hj⟩ : ∃ j : Nat, (n : Int) - 1 - (i : Int) = (j : Int) := ⟨n - 1 - i, by omega⟩
      rw [hj] at hd ⊢
      have hjn : j < n := by omega
      have hij : i < j := by omega
      obtain ⟨x, hx⟩ : ∃ x, l'[i]? = some x := ⟨_, List.getElem?_eq_getElem (by rw [HLN.out]; omega)⟩
      obtain ⟨y, hy⟩ : ∃ y, l'[j]? = some y := ⟨_, List.getElem?_eq_getElem (by rw [HLN.out]; omega)⟩
      obtain ⟨g, c', hv', hg1, hg2, hnc⟩ := own_form HO2.out (by omega)
      injection hv' with e1 e2 e3
      subst e1 e3
      have hrow := Row.of_own Wn.cs_len HO2.out HLN.out.symm
      obtain ⟨b1, o1, c1, hv1, -, -, hX⟩ := hrow.at_ hx
      rw [HLN.out] at hv1
      injection hv1 with e1 e2 e3
      injection e1 with e1
      injection e1 with e1 e4 e5
      subst e1 e4 e3
      obtain ⟨b1, o1, c1, hv1, -, -, hY⟩ := hrow.at_ hy
      rw [HLN.out] at hv1
      injection hv1 with e1 e2 e3
      injection e1 with e1
      injection e1 with e1 e4 e5
      subst e1 e4 e3
      have r0 := hX 0 _ rfl
      have r1 := hX 1 _ rfl
      have s0 := hY 0 _ rfl
      have s1 := hY 1 _ rfl
      simp only [Nat.zero_add, Nat.add_zero] at r0 r1 s0 s1
      obtain ⟨fz, hfz⟩ : ∃ cur, wr.heap[g]? = some (.cells cur 55 (0, 0)) := by
        rcases HO2.out.2 with ⟨e, -⟩ | ⟨g', cap', cur', hv', -, hg', -⟩
        · cases e
        · injection hv' with e1
          injection e1 with e1
          injection e1 with e1
          subst e1
          exact ⟨_, hg'⟩
      have f0 := frozAt hfz
      have hI1 : (i : Int) < (n : Int) := by omega
      have hJ1 : (j : Int) < (n : Int) := by omega
      have hI2 : i < n := by omega
      have HX := Lib.hid hx
      have HY := Lib.hid hy
      have hij2 : i ≠ j := by omega
      have hd2 : ((i : Int) < (j : Int)) := by omega
      have HJ := Lib.hid hj
      clear hX hY hrow hx hy hfz hj e2 e5
      obtain ⟨xl, xh⟩ := x
      obtain ⟨yl, yh⟩ := y
      try simp only at r0 r1 s0 s1
      go_upto_region 3 with fail
      go_region
      have O1 := own_updW HO2.out HX.out yl yh
      have O2 := own_updW O1 (i := j) (x := ⟨yl, yh⟩) (by rw [List.getElem?_set_ne hij2]; exact HY.out) xl xh
      have G1 := gby_set (gby_set (gby_set (gby_set HG.out (i * 2) (.int .i64 yl)) (i * 2 + 1) (.int .i64 yh)) (j * 2) (.int .i64 xl)) (j * 2 + 1) (.int .i64 xh)
      have O3 : ((((wr.setCell ⟨g, i * 2, none⟩ (.int .i64 yl)).setCell ⟨g, i * 2 + 1, none⟩ (.int .i64 yh)).setCell ⟨g, j * 2, none⟩ (.int .i64 xl)).setCell ⟨g, j * 2 + 1, none⟩ (.int .i64 xh)).drew.ownsRow base 55 2 (.slice (some ⟨g, 0, none⟩) n c) n (((l'.set i ⟨yl, yh⟩).set j ⟨xl, xh⟩).flatMap Wn.cs) := O2
      have G3 := gby_drew G1
      generalize ((((wr.setCell ⟨g, i * 2, none⟩ (.int .i64 yl)).setCell ⟨g, i * 2 + 1, none⟩ (.int .i64 yh)).setCell ⟨g, j * 2, none⟩ (.int .i64 xl)).setCell ⟨g, j * 2 + 1, none⟩ (.int .i64 xh)).drew = W7 at O3 G3 ⊢
      have HO3 := Lib.hid O3
      have HG3 := Lib.hid G3
      clear O1 O2 O3 G1 G3 r0 r1 s0 s1 f0
      go_wp2_with fail
      go_roundw
      case rel => refine ⟨i + 1, (l'.set i ⟨yl, yh⟩).set j ⟨xl, xh⟩, by go_num, by rw [HN.out]; exact congrArg (Value.int .i64) (by have := HJ.out; omega), by rw [HN.out]; omega, by rw [HN.out]; exact HO3.out, by rw [List.length_set, List.length_set, HLN.out, HN.out], ?_, HG3.out⟩; intro z hz; rcases List.mem_or_eq_of_mem_set hz with h | rfl; rcases List.mem_or_eq_of_mem_set h with h | rfl; exact HS.out _ h; exact HS.out _ (List.mem_of_getElem? HY.out); exact HS.out _ (List.mem_of_getElem? HX.out)
      case measure => simp [intOf]; omega
    · have hd : decide ((i : Int) < (n : Int) - 1 - (i : Int)) = false := decide_eq_false (by omega)
      go_wp2_with fail
      go_end0
      exact ⟨⟨l', by rw [HN.out]; exact HO2.out, by rw [HLN.out, HN.out], HS.out⟩, ⟨_, rfl⟩, HG.out⟩
end Go.Proofs.Ytlboehpgpbchhaa
