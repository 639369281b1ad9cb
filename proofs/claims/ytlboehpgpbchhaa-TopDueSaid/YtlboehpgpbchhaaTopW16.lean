/-
  WALKS of the top laws: the windows that hold a time, the last one first: the iterator.
-/
import Derived.Test.YtlboehpgpbchhaaTopW15
import Derived.Test.YtlboehpgpbchhaaTopQ
import Derived.Shelf.Abstract
import Derived.Shelf.RegionOpen
import Derived.OwnWalkIn
import Derived.TacticsInMore
import Derived.LoopNIn
import Derived.LoopIn
import Derived.Maps.AppendAt
set_option linter.unusedVariables false
set_option linter.unusedSimpArgs false
namespace Go.Proofs.Ytlboehpgpbchhaa
open Go.RowKit Go.Shelf
attribute [local go_sem] Oper.semAt_some

/-- The i-th window, from behind. -/
def wnAt (s d t : Int) (i : Nat) : Wn := ⟨t - t % d - i * d, tAt (tAt (t - t % d - i * d) + tAt s)⟩
def wnE (x : Wn) : Array Value := #[.agg #[.int .i64 x.lo, .int .i64 x.hi]]
def wnIn (s d t : Int) (i : Nat) : Prop := 0 ≤ t - t % d - i * d ∧ t - s < t - t % d - i * d
/-- All windows have come. -/
def WnS (s d t : Int) (xs : List Wn) : Prop := ∃ k : Nat, xs = (List.range k).map (wnAt s d t) ∧ (∀ i : Nat, i < k → wnIn s d t i) ∧ ¬ wnIn s d t k
theorem wn_16 {s d t : Int} {i : Nat} (hR : wR s d = true) (ht : 0 ≤ t) (h : wnIn s d t i) : i < 16 := by
  unfold wR at hR
  simp at hR
  obtain ⟨⟨⟨h1, h2⟩, h3⟩, h4⟩ := hR
  have := Int.emod_nonneg t (show d ≠ 0 by omega)
  have h5 : (i : Int) * d < 16 * d := by have := h.2; omega
  have := Int.lt_of_mul_lt_mul_right h5 (by omega)
  omega
def BkRel (s d t : Int) (J : List Wn → World → Prop) (W : World) (bs bd bt : Nat) (lo : Value) (wr : World) : Prop :=
  W.heap.size ≤ wr.heap.size ∧ ∃ i : Nat, lo = .int .i64 (t - t % d - i * d) ∧ (∀ k : Nat, k < i → wnIn s d t k) ∧ J ((List.range i).map (wnAt s d t)) wr ∧ Boxed wr bs 2 (.int .i64 s) ∧ Boxed wr bd 2 (.int .i64 d) ∧ Boxed wr bt 2 (.int .i64 t)
set_option maxRecDepth 100000 in
set_option maxHeartbeats 4000000 in
theorem back1_seq (n : Nat) (hn : 1 ≤ n) (s d t : Int) (bs bd bt n0 : Nat) (w : World) (hbs : Boxed w bs 2 (.int .i64 s)) (hbd : Boxed w bd 2 (.int .i64 d)) (hbt : Boxed w bt 2 (.int .i64 t)) (hR : wR s d = true) (ht : 0 ≤ t) (ht2 : t < 1099511627776) :
    SeqQ Fence.wide n Try.prog 113 #[.pointer (some ⟨bt, 0, none⟩), .pointer (some ⟨bd, 0, none⟩), .pointer (some ⟨bs, 0, none⟩)] wnE n0 [bt, bd, bs] 0 (WnS s d t) (fun _ => True) 16 w := by
  intro l J Jx W hW hJ hJx hY h0
  have HRR := Lib.hid hR
  have HY := Lib.hid hY
  unfold wR at hR
  simp at hR
  obtain ⟨⟨⟨hd1, hd2⟩, hs1⟩, hs2⟩ := hR
  have bS := heap_below hbs hW
  have bD := heap_below hbd hW
  have bT := heap_below hbt hW
  have cS : W.cell? ⟨bs, 0, none⟩ = some (.int .i64 s) := Boxed.cell bS
  have cD : W.cell? ⟨bd, 0, none⟩ = some (.int .i64 d) := Boxed.cell bD
  have cT : W.cell? ⟨bt, 0, none⟩ = some (.int .i64 t) := Boxed.cell bT
  have HF := Lib.hid (fun w => floor_any t d w ht (by omega) hd1 (by omega))
  have Hm := Lib.hid (show 0 ≤ t % d ∧ t % d < d from ⟨Int.emod_nonneg t (by omega), Int.emod_lt_of_pos t (by omega)⟩)
  clear hW hJ hJx hbs hbd hbt hY
  refine callsIn_of_wp Try.func113 rfl trivial ?_ rfl
  simp only [Try.ntmps113, List.size_toArray, List.length_cons, List.length_nil, Nat.reduceAdd, Nat.reduceSub, Array.replicate_succ, Array.replicate_zero, List.push_toArray, List.append_toArray, List.nil_append, List.cons_append]
  gi_wp2_with (refine ⟨trivial, ?_⟩; gi_at_call 114; refine (callsIn_wide.2 (HF.out _)).mono ?_; rintro e w' ⟨rfl, rfl⟩)
  gi_loopw [5] (fun lo wr => BkRel s d t J w' bs bd bt lo wr) (fun lo _ => (intOf lo + d).toNat)
  case atStart => exact ⟨Nat.le_refl _, 0, by simp, fun k hk => absurd hk (by omega), h0, bS, bD, bT⟩
  case round =>
    obtain ⟨hsz, i, rfl, hin, hJs, bS2, bD2, bT2⟩ := hrel
    have HI := Lib.hid hin
    have HJs := Lib.hid hJs
    have BS := Lib.hid bS2
    have BD := Lib.hid bD2
    have BT := Lib.hid bT2
    have HSZ := Lib.hid hsz
    have c1 : wr.cell? ⟨bs, 0, none⟩ = some (.int .i64 s) := Boxed.cell bS2
    have c2 : wr.cell? ⟨bd, 0, none⟩ = some (.int .i64 d) := Boxed.cell bD2
    have c3 : wr.cell? ⟨bt, 0, none⟩ = some (.int .i64 t) := Boxed.cell bT2
    obtain ⟨x, hx⟩ : ∃ x, wnAt s d t i = x := ⟨_, rfl⟩
    have hbd1 : -1048576 ≤ t - t % d - i * d ∧ t - t % d - i * d ≤ t := by
      have h1 := Hm.out
      have h0i : (0 : Int) ≤ (i : Int) * d := Int.mul_nonneg (by omega) (by omega)
      refine ⟨?_, by omega⟩
      cases i with
      | zero =>
        have e1 := Int.emod_def t d
        have e2 : 0 ≤ d * (t / d) := Int.mul_nonneg (by omega) (Int.ediv_nonneg ht (by omega))
        simp
        omega
      | succ k =>
        have := (hin k (by omega)).1
        have e : ((k + 1 : Nat) : Int) * d = k * d + d := by rw [Int.natCast_add, Int.add_mul]; simp
        rw [e]
        omega
    have HX : Hid (wnAt s d t i = ⟨t - t % d - i * d, tAt (tAt (t - t % d - i * d) + tAt s)⟩) := Lib.hid rfl
    have HIN : Hid (wnIn s d t i ↔ 0 ≤ t - t % d - i * d ∧ t - s < t - t % d - i * d) := Lib.hid Iff.rfl
    have HNX : Hid (t - t % d - (i + 1 : Nat) * d = t - t % d - i * d - d) := Lib.hid (by rw [Int.natCast_add, Int.add_mul]; simp; omega)
    obtain ⟨lo, hlo⟩ : ∃ x, t - t % d - i * d = x := ⟨_, rfl⟩
    rw [hlo] at hbd1 HX HIN HNX ⊢
    obtain ⟨hl1, hl2⟩ := hbd1
    clear hsz hin hJs bS2 bD2 bT2 hlo hx bS bD bT cS cD cT h0
    by_cases hw : 0 ≤ lo ∧ t - s < lo
    · obtain ⟨hw1, hw2⟩ := hw
      have hin : wnIn s d t i := HIN.out.2 ⟨hw1, hw2⟩
      have h16 := wn_16 HRR.out ht hin
      obtain ⟨fn, tmps, assign, body, hy, hR⟩ := HY.out _ (wnAt s d t i) wr HSZ.out HJs.out (by simp; exact h16)
      rw [HX.out] at hy
      simp only [wnE] at hy
      have HR := Lib.hid hR
      have HIN2 := Lib.hid hin
      have HA := Lib.hid (fun w => add_any lo s w)
      obtain ⟨hh, hhh⟩ : ∃ x, tAt (tAt lo + tAt s) = x := ⟨_, rfl⟩
      rw [hhh] at HA hy
      clear hR hin hhh
      gi_wp2_with (refine ⟨trivial, ?_⟩; gi_at_call 115; refine (callsIn_wide.2 (HA.out _)).mono ?_; rintro e w' ⟨rfl, rfl⟩)
      refine HR.out.mono ?_
      rintro e W3 (⟨rfl, hJ3, hk3⟩ | ⟨rfl, hJx3, -⟩)
      · have HJ3 := Lib.hid hJ3
        have BS3 := Lib.hid (hk3.fix bs (by simp) _ BS.out)
        have BD3 := Lib.hid (hk3.fix bd (by simp) _ BD.out)
        have BT3 := Lib.hid (hk3.fix bt (by simp) _ BT.out)
        have c4 : W3.cell? ⟨bd, 0, none⟩ = some (.int .i64 d) := Boxed.cell BD3.out
        have HSZ3 := Lib.hid (Nat.le_trans HSZ.out hk3.low.size)
        clear hJ3 hk3
        gi_wp2
        go_roundw
        case rel =>
          refine ⟨HSZ3.out, i + 1, by rw [HNX.out], ?_, ?_, BS3.out, BD3.out, BT3.out⟩
          · intro k hk
            by_cases h : k < i
            · exact HI.out k h
            · have : k = i := by omega
              subst this
              exact HIN2.out
          · rw [List.range_succ, List.map_append]
            exact HJ3.out
        case measure => simp [intOf]; omega
      · have HJx3 := Lib.hid hJx3
        clear hJx3
        gi_wp2
        refine bodyPost_ret (results_none rfl _ _ _) rfl ?_
        exact ⟨⟨_, rfl⟩, .inr ⟨_, trivial, HJx3.out⟩⟩
    · have hno : ¬ wnIn s d t i := fun h => hw (HIN.out.1 h)
      have HNO := Lib.hid hno
      clear hno
      by_cases hw1 : 0 ≤ lo
      · have hw2 : ¬ (t - s < lo) := fun h => hw ⟨hw1, h⟩
        have hw3 : decide (t - s < lo) = false := decide_eq_false hw2
        clear hw
        gi_wp2
        go_end0
        exact ⟨⟨_, rfl⟩, .inl ⟨_, ⟨i, rfl, HI.out, HNO.out⟩, HJs.out⟩⟩
      · clear hw
        gi_wp2
        go_end0
        exact ⟨⟨_, rfl⟩, .inl ⟨_, ⟨i, rfl, HI.out, HNO.out⟩, HJs.out⟩⟩
end Go.Proofs.Ytlboehpgpbchhaa
