/-
  WALKS of layer 17: the reference's with, Count.
-/
import Derived.Test.YtlboehpgpbchhaaStoreW7
set_option linter.unusedVariables false
set_option linter.unusedSimpArgs false
namespace Go.Proofs.Ytlboehpgpbchhaa
open Go.RowKit

theorem fold_len (x : Cl) : ∀ (l : List Cl) (s : List Cl × Bool), (l.foldl (wStep x) s).1.length ≤ s.1.length + 2 * l.length
  | [], s => by simp
  | a :: l, s => by
    have h := fold_len x l (wStep x s a)
    have h2 : (wStep x s a).1.length ≤ s.1.length + 2 := by
      unfold wStep
      simp only [List.length_append]
      split <;> split <;> simp
    rw [List.foldl_cons, List.length_cons]
    omega
def RwRel (W0 : World) (x : Cl) (l : List Cl) (v p i : Value) (wr : World) : Prop :=
  ∃ (k : Nat) (o : List Cl) (q : Bool), k ≤ l.length ∧ i = .int .i64 k ∧ (l.take k).foldl (wStep x) ([], noB x.b) = (o, q) ∧ p = .bool q ∧ OwnC W0.heap.size wr v o ∧ Below W0.heap.size W0 wr
/-- A call answers a row of cells. -/
def RowTo (l : List Cl) (w : World) (e : Ending) (w' : World) : Prop := ∃ v, e = .returned v ∧ Row Cl.cs 2 w' v l ∧ Below w.heap.size w w'
theorem own_push2 {B : Nat} {w7 : World} {A : Option Addr} {c n : Nat} {l : List Cl} {xs : List Value} (h : w7.ownsRow B 43 2 (.slice A n c) n xs) (hx : xs = l.flatMap Cl.cs) : w7.ownsRow B 43 2 (.slice A n c) n (l.flatMap Cl.cs) := by
  rw [← hx]
  exact h
theorem own_push {B : Nat} {w7 : World} {A : Option Addr} {c : Nat} {l : List Cl} {m : Nat} {x : Cl} (h : w7.ownsRow B 43 2 (.slice A (m + 1) c) (m + 1) (l.flatMap Cl.cs ++ [.string x.n, .string x.b])) (hm : l.length = m) : w7.ownsRow B 43 2 (.slice A (m + 1) c) (m + 1) ((l ++ [x]).flatMap Cl.cs) := by
  rw [List.flatMap_append]
  exact h
set_option maxRecDepth 100000 in
set_option maxHeartbeats 4000000 in
theorem rwith_any (l : List Cl) (x : Cl) (v : Value) (w : World) (hv : Row Cl.cs 2 w v l) (hl : l.length ≤ 100000) :
    Calls Try.prog 46 #[v, .agg #[.string x.n, .string x.b]] w (RowTo (withL l x) w) := by
  obtain ⟨i0, hi, hi0, hi1, hi2⟩ := info_parts info_cl
  have HI := Lib.hid hi
  have HZ0 := Lib.hid hi0
  have HZ1 := Lib.hid hi1
  have HZ2 := Lib.hid hi2
  clear hi hi0 hi1 hi2
  have HV := Lib.hid hv
  obtain ⟨A, c, rfl, -⟩ := hv
  obtain ⟨n, hn⟩ : ∃ n, l.length = n := ⟨_, rfl⟩
  obtain ⟨R, hR⟩ : ∃ R, withL l x = R := ⟨_, rfl⟩
  rw [hR]
  rw [hn] at HV hl ⊢
  have Hn := Lib.hid hn
  have HR := Lib.hid hR
  clear hn hR
  unfold RowTo
  obtain ⟨xn, xb⟩ := x
  obtain ⟨z, hz⟩ : ∃ z, noB xb = z := ⟨_, rfl⟩
  have HZ := Lib.hid hz
  unfold noB at hz
  simp only
  go_enter Try.func46, Try.ntmps46
  go_wp2_with fail
  obtain ⟨W0, hW0⟩ : ∃ X, X = w.alloc (.cells #[.string xn, .string xb] 43) := ⟨_, rfl⟩
  rw [← hW0]
  have hx0 := show W0.heap[w.heap.size]? = some (.cells #[.string xn, .string xb] 43 (0, 0)) by rw [hW0]; exact heap_at w _ _ rfl
  have hb0 := show Below w.heap.size w W0 by rw [hW0]; exact bel_alloc (Below.refl _ _) _
  have HX0 := Lib.hid hx0
  have HZW := Lib.hid (show W0.heap.size = w.heap.size + 1 by rw [hW0]; simp)
  have HB0 := Lib.hid hb0
  have R1 := Lib.hid (HV.out.below hb0)
  clear hx0 hb0 hW0
  go_loopw [5, 6, 15] (fun v p i wr => RwRel W0 ⟨xn, xb⟩ l v p i wr) (fun _ _ i _ => n - (intOf i).toNat)
  case atStart => exact ⟨0, [], z, Nat.zero_le _, rfl, by rw [← HZ.out]; rfl, rfl, by rw [← HZW.out]; exact own_empty _ _ _ _ (Nat.le_refl _), bel_alloc (Below.refl _ _) _⟩
  case round =>
    obtain ⟨k, o, q, hk, rfl, hfo, rfl, hown, hbel⟩ := hrel
    rw [Hn.out] at hk
    have HFO := Lib.hid hfo
    have HOL : o.length ≤ 2 * k := by
      have h := fold_len ⟨xn, xb⟩ (l.take k) ([], noB xb)
      rw [hfo, List.length_take, List.length_nil] at h
      simp only at h
      omega
    have HB := Lib.hid hbel
    have HX := Lib.hid (heap_below HX0.out hbel)
    have HBS : W0.heap.size ≤ wr.heap.size := hbel.size
    obtain ⟨A5, c5, rfl⟩ := own_slice hown
    obtain ⟨m, hm⟩ : ∃ m, o.length = m := ⟨_, rfl⟩
    have HM := Lib.hid hm
    have HO : Hid (wr.ownsRow W0.heap.size 43 2 (.slice A5 m c5) m (o.flatMap Cl.cs)) := Lib.hid (by unfold OwnC at hown; rw [hm] at hown; exact hown)
    rw [hm] at HOL ⊢
    clear hown hbel hfo hm
    have zx := blk_lt HX.out
    have x0 := cellsAt HX.out 0
    have x1 := cellsAt HX.out 1
    have fx := frozAt HX.out
    simp at x0 x1
    have hxw : w.heap.size < W0.heap.size := blk_lt HX0.out
    by_cases hlt : k < n
    · obtain ⟨y, hi⟩ : ∃ y, l[k]? = some y := ⟨_, List.getElem?_eq_getElem (by rw [Hn.out]; exact hlt)⟩
      have HY := Lib.hid hi
      obtain ⟨b1, o1, c6, e', hc', hb1, hX⟩ := (R1.out.below HB.out).at_ hi
      injection e' with e1 e2 e3
      clear e2
      subst e1 e3
      have k0 := hX 0 _ rfl
      have k1 := hX 1 _ rfl
      clear hX hi
      simp only [Nat.add_zero] at k0 k1
      have HNX := Lib.hid (show (l.take (k + 1)).foldl (wStep ⟨xn, xb⟩) ([], noB xb) = wStep ⟨xn, xb⟩ (o, q) y by rw [take_snoc HY.out, List.foldl_append, HFO.out]; rfl)
      obtain ⟨yn, yb⟩ := y
      simp only at k0 k1
      go_upto_region 6 with fail
      obtain ⟨W1, hW1⟩ : ∃ X, X = wr.alloc (.cells #[.string yn, .string yb] 43) := ⟨_, rfl⟩
      rw [← hW1]
      have hb1 := show Below wr.heap.size wr W1 by rw [hW1]; exact bel_alloc (Below.refl _ _) _
      have hy := show W1.heap[wr.heap.size]? = some (.cells #[.string yn, .string yb] 43 (0, 0)) by rw [hW1]; exact heap_at wr _ _ rfl
      have HYB := Lib.hid hy
      have HX1 := Lib.hid (heap_below HX.out hb1)
      have HO1 := Lib.hid (own_below HO.out hb1)
      have HB1 := Lib.hid (show Below W0.heap.size W0 W1 from HB.out.trans (hb1.mono HBS))
      have HBS1 : W0.heap.size ≤ W1.heap.size := HB1.out.size
      have HNX1 : Hid (∀ j, (Value.slice A5 m c5).ownBlock = some j → j ≠ w.heap.size ∧ j ≠ wr.heap.size) := Lib.hid (fun j e => by have h := HO.out.lt _ e; omega)
      clear hW1 hb1 hy zx x0 x1 fx k0 k1 HX HO
      have zx := blk_lt HX1.out
      have x0 := cellsAt HX1.out 0
      have x1 := cellsAt HX1.out 1
      have fx := frozAt HX1.out
      have zy := blk_lt HYB.out
      have y0 := cellsAt HYB.out 0
      have y1 := cellsAt HYB.out 1
      have fy := frozAt HYB.out
      simp at x0 x1 y0 y1
      obtain ⟨g, hg⟩ : ∃ g, ltS yn xn = g := ⟨_, rfl⟩
      obtain ⟨ne, hne⟩ : ∃ e, eqB yn xn = e := ⟨_, rfl⟩
      have HSTQ := Lib.hid (show wStep ⟨xn, xb⟩ (o, q) ⟨yn, yb⟩ = ((if (!q && !g) = true then o ++ [⟨xn, xb⟩] else o) ++ (if ne = true then [] else [⟨yn, yb⟩]), q || !g) by unfold wStep; simp only [hg, hne])
      unfold ltS at hg
      unfold eqB at hne
      cases q with
      | true =>
        cases g with
        | true =>
          have HO7 := HO1
          have HB7 := HB1
          have hbs2 := HBS1
          have HLN := HM
          cases ne with
          | true =>
            have HST := Lib.hid (show (l.take (k + 1)).foldl (wStep ⟨xn, xb⟩) ([], noB xb) = (o, true) by rw [HNX.out, HSTQ.out]; simp)
            go_wp2_with fail
            go_roundw
            case rel => exact ⟨k + 1, o, true, by rw [Hn.out]; omega, by go_num, HST.out, rfl, by unfold OwnC; rw [HLN.out]; exact HO7.out, HB7.out⟩
            case measure => simp [intOf]; omega
          | false =>
            have HST := Lib.hid (show (l.take (k + 1)).foldl (wStep ⟨xn, xb⟩) ([], noB xb) = (o ++ [⟨yn, yb⟩], true) by rw [HNX.out, HSTQ.out]; simp)
            go_wp2_with (at_builtin; refine wpList_push _ rfl _ _ 22 rfl W0.heap.size 43 i0 (.agg #[.string ⟨#[]⟩, .string ⟨#[]⟩]) 2 32 Try.underlying22 HI.out HZ0.out HZ1.out HZ2.out rfl (by decide) _ _ _ rfl HO7.out #[.string yn, .string yb] 43 rfl rfl (by intro u hu; simp at hu; rcases hu with rfl | rfl <;> rfl) (by unfold maxLen; omega) (by omega) hbs2 ?_)
            intro v9 w9 hown9 hb9 _
            obtain ⟨A9, c9, rfl⟩ := own_slice hown9
            have HO9 := Lib.hid (own_push2 (l := o ++ [⟨yn, yb⟩]) hown9 (by simp [List.flatMap_append, Cl.cs]))
            have HB9 := Lib.hid (HB7.out.trans hb9)
            clear hown9 hb9
            go_wp2_with fail
            go_roundw
            case rel => exact ⟨k + 1, o ++ [⟨yn, yb⟩], true, by rw [Hn.out]; omega, by go_num, HST.out, rfl, by unfold OwnC; rw [List.length_append, HLN.out]; exact HO9.out, HB9.out⟩
            case measure => simp [intOf]; omega
        | false =>
          have HO7 := HO1
          have HB7 := HB1
          have hbs2 := HBS1
          have HLN := HM
          cases ne with
          | true =>
            have HST := Lib.hid (show (l.take (k + 1)).foldl (wStep ⟨xn, xb⟩) ([], noB xb) = (o, true) by rw [HNX.out, HSTQ.out]; simp)
            go_wp2_with fail
            go_roundw
            case rel => exact ⟨k + 1, o, true, by rw [Hn.out]; omega, by go_num, HST.out, rfl, by unfold OwnC; rw [HLN.out]; exact HO7.out, HB7.out⟩
            case measure => simp [intOf]; omega
          | false =>
            have HST := Lib.hid (show (l.take (k + 1)).foldl (wStep ⟨xn, xb⟩) ([], noB xb) = (o ++ [⟨yn, yb⟩], true) by rw [HNX.out, HSTQ.out]; simp)
            go_wp2_with (at_builtin; refine wpList_push _ rfl _ _ 22 rfl W0.heap.size 43 i0 (.agg #[.string ⟨#[]⟩, .string ⟨#[]⟩]) 2 32 Try.underlying22 HI.out HZ0.out HZ1.out HZ2.out rfl (by decide) _ _ _ rfl HO7.out #[.string yn, .string yb] 43 rfl rfl (by intro u hu; simp at hu; rcases hu with rfl | rfl <;> rfl) (by unfold maxLen; omega) (by omega) hbs2 ?_)
            intro v9 w9 hown9 hb9 _
            obtain ⟨A9, c9, rfl⟩ := own_slice hown9
            have HO9 := Lib.hid (own_push2 (l := o ++ [⟨yn, yb⟩]) hown9 (by simp [List.flatMap_append, Cl.cs]))
            have HB9 := Lib.hid (HB7.out.trans hb9)
            clear hown9 hb9
            go_wp2_with fail
            go_roundw
            case rel => exact ⟨k + 1, o ++ [⟨yn, yb⟩], true, by rw [Hn.out]; omega, by go_num, HST.out, rfl, by unfold OwnC; rw [List.length_append, HLN.out]; exact HO9.out, HB9.out⟩
            case measure => simp [intOf]; omega
      | false =>
        cases g with
        | true =>
          have HO7 := HO1
          have HB7 := HB1
          have hbs2 := HBS1
          have HLN := HM
          cases ne with
          | true =>
            have HST := Lib.hid (show (l.take (k + 1)).foldl (wStep ⟨xn, xb⟩) ([], noB xb) = (o, false) by rw [HNX.out, HSTQ.out]; simp)
            go_wp2_with fail
            go_roundw
            case rel => exact ⟨k + 1, o, false, by rw [Hn.out]; omega, by go_num, HST.out, rfl, by unfold OwnC; rw [HLN.out]; exact HO7.out, HB7.out⟩
            case measure => simp [intOf]; omega
          | false =>
            have HST := Lib.hid (show (l.take (k + 1)).foldl (wStep ⟨xn, xb⟩) ([], noB xb) = (o ++ [⟨yn, yb⟩], false) by rw [HNX.out, HSTQ.out]; simp)
            go_wp2_with (at_builtin; refine wpList_push _ rfl _ _ 22 rfl W0.heap.size 43 i0 (.agg #[.string ⟨#[]⟩, .string ⟨#[]⟩]) 2 32 Try.underlying22 HI.out HZ0.out HZ1.out HZ2.out rfl (by decide) _ _ _ rfl HO7.out #[.string yn, .string yb] 43 rfl rfl (by intro u hu; simp at hu; rcases hu with rfl | rfl <;> rfl) (by unfold maxLen; omega) (by omega) hbs2 ?_)
            intro v9 w9 hown9 hb9 _
            obtain ⟨A9, c9, rfl⟩ := own_slice hown9
            have HO9 := Lib.hid (own_push2 (l := o ++ [⟨yn, yb⟩]) hown9 (by simp [List.flatMap_append, Cl.cs]))
            have HB9 := Lib.hid (HB7.out.trans hb9)
            clear hown9 hb9
            go_wp2_with fail
            go_roundw
            case rel => exact ⟨k + 1, o ++ [⟨yn, yb⟩], false, by rw [Hn.out]; omega, by go_num, HST.out, rfl, by unfold OwnC; rw [List.length_append, HLN.out]; exact HO9.out, HB9.out⟩
            case measure => simp [intOf]; omega
        | false =>
          go_wp2_with (at_builtin; refine wpList_push _ rfl _ _ 22 rfl W0.heap.size 43 i0 (.agg #[.string ⟨#[]⟩, .string ⟨#[]⟩]) 2 32 Try.underlying22 HI.out HZ0.out HZ1.out HZ2.out rfl (by decide) _ _ _ rfl HO1.out #[.string xn, .string xb] 43 rfl rfl (by intro u hu; simp at hu; rcases hu with rfl | rfl <;> rfl) (by unfold maxLen; omega) (by omega) HBS1 ?_)
          intro v7 w7 hown7 hb7 hk7
          obtain ⟨A7, c7, rfl⟩ := own_slice hown7
          have HX2 := Lib.hid ((hk7 _ zx (fun e => (HNX1.out _ e).1 rfl)).trans HX1.out)
          have HY2 := Lib.hid ((hk7 _ zy (fun e => (HNX1.out _ e).2 rfl)).trans HYB.out)
          have HO7 := Lib.hid (own_push (x := ⟨xn, xb⟩) hown7 HM.out)
          have HB7 := Lib.hid (HB1.out.trans hb7)
          have hbs2 : W0.heap.size ≤ w7.heap.size := HB7.out.size
          have HLN := Lib.hid (show (o ++ [(⟨xn, xb⟩ : Cl)]).length = m + 1 by rw [List.length_append, HM.out]; rfl)
          clear hown7 hb7 hk7 zx x0 x1 fx zy y0 y1 fy HO1 HX1 HYB
          have zx := blk_lt HX2.out
          have x0 := cellsAt HX2.out 0
          have x1 := cellsAt HX2.out 1
          have fx := frozAt HX2.out
          have zy := blk_lt HY2.out
          have y0 := cellsAt HY2.out 0
          have y1 := cellsAt HY2.out 1
          have fy := frozAt HY2.out
          simp at x0 x1 y0 y1
          cases ne with
          | true =>
            have HST := Lib.hid (show (l.take (k + 1)).foldl (wStep ⟨xn, xb⟩) ([], noB xb) = ((o ++ [⟨xn, xb⟩]), true) by rw [HNX.out, HSTQ.out]; simp)
            go_wp2_with fail
            go_roundw
            case rel => exact ⟨k + 1, (o ++ [⟨xn, xb⟩]), true, by rw [Hn.out]; omega, by go_num, HST.out, rfl, by unfold OwnC; rw [HLN.out]; exact HO7.out, HB7.out⟩
            case measure => simp [intOf]; omega
          | false =>
            have HST := Lib.hid (show (l.take (k + 1)).foldl (wStep ⟨xn, xb⟩) ([], noB xb) = (o ++ [⟨xn, xb⟩] ++ [⟨yn, yb⟩], true) by rw [HNX.out, HSTQ.out]; simp)
            go_wp2_with (at_builtin; refine wpList_push _ rfl _ _ 22 rfl W0.heap.size 43 i0 (.agg #[.string ⟨#[]⟩, .string ⟨#[]⟩]) 2 32 Try.underlying22 HI.out HZ0.out HZ1.out HZ2.out rfl (by decide) _ _ _ rfl HO7.out #[.string yn, .string yb] 43 rfl rfl (by intro u hu; simp at hu; rcases hu with rfl | rfl <;> rfl) (by unfold maxLen; omega) (by omega) hbs2 ?_)
            intro v9 w9 hown9 hb9 _
            obtain ⟨A9, c9, rfl⟩ := own_slice hown9
            have HO9 := Lib.hid (own_push2 (l := (o ++ [⟨xn, xb⟩]) ++ [⟨yn, yb⟩]) hown9 (by simp [List.flatMap_append, Cl.cs]))
            have HB9 := Lib.hid (HB7.out.trans hb9)
            clear hown9 hb9
            go_wp2_with fail
            go_roundw
            case rel => exact ⟨k + 1, (o ++ [⟨xn, xb⟩]) ++ [⟨yn, yb⟩], true, by rw [Hn.out]; omega, by go_num, HST.out, rfl, by unfold OwnC; rw [List.length_append, HLN.out]; exact HO9.out, HB9.out⟩
            case measure => simp [intOf]; omega
    · obtain rfl : k = n := by omega
      have HFO2 := Lib.hid (show wFold ⟨xn, xb⟩ l = (o, q) by have h := HFO.out; rw [List.take_of_length_le (by rw [Hn.out]; exact Nat.le_refl _)] at h; exact h)
      cases q with
      | true =>
        have HRR := Lib.hid (show R = o by rw [← HR.out]; unfold withL; rw [HFO2.out]; rfl)
        go_wp2_with fail
        go_ret
        exact ⟨_, rfl, by rw [HRR.out]; exact Row.of_own Cl.cs_len HO.out HM.out.symm, bThen HB0.out HB.out⟩
      | false =>
        have HRR := Lib.hid (show R = o ++ [⟨xn, xb⟩] by rw [← HR.out]; unfold withL; rw [HFO2.out]; rfl)
        go_wp2_with (at_builtin; refine wpList_push _ rfl _ _ 22 rfl W0.heap.size 43 i0 (.agg #[.string ⟨#[]⟩, .string ⟨#[]⟩]) 2 32 Try.underlying22 HI.out HZ0.out HZ1.out HZ2.out rfl (by decide) _ _ _ rfl HO.out #[.string xn, .string xb] 43 rfl rfl (by intro u hu; simp at hu; rcases hu with rfl | rfl <;> rfl) (by unfold maxLen; omega) (by omega) HBS ?_)
        intro v9 w9 hown9 hb9 _
        obtain ⟨A9, c9, rfl⟩ := own_slice hown9
        have HO9 := Lib.hid (own_push (x := ⟨xn, xb⟩) hown9 HM.out)
        have HB9 := Lib.hid (HB.out.trans hb9)
        clear hown9 hb9
        go_wp2_with fail
        go_ret
        exact ⟨_, rfl, by rw [HRR.out]; exact Row.of_own Cl.cs_len HO9.out (by rw [List.length_append, HM.out]; rfl), bThen HB0.out HB9.out⟩
def RcRel (l f : List Cl) (w : World) (v i : Value) (wr : World) : Prop :=
  ∃ k : Nat, k ≤ f.length ∧ i = .int .i64 k ∧ Row Cl.cs 2 wr v (countL l (f.take k)) ∧ Below w.heap.size w wr
set_option maxRecDepth 100000 in
set_option maxHeartbeats 4000000 in
theorem rcount_any (l f : List Cl) (v u : Value) (w : World) (hv : Row Cl.cs 2 w v l) (hu : Row Cl.cs 2 w u f) (hl : l.length ≤ 1000) (hf : f.length ≤ 1000) (hs : Rise l) :
    Calls Try.prog 25 #[v, u] w (RowTo (countL l f) w) := by
  have HV := Lib.hid hv
  have HU := Lib.hid hu
  obtain ⟨A', c', rfl, -⟩ := hu
  obtain ⟨A, c, rfl, -⟩ := hv
  obtain ⟨n, hn⟩ : ∃ n, f.length = n := ⟨_, rfl⟩
  obtain ⟨R, hR⟩ : ∃ R, countL l f = R := ⟨_, rfl⟩
  rw [hR]
  rw [hn] at HU hf ⊢
  have Hn := Lib.hid hn
  have HR := Lib.hid hR
  have HL := Lib.hid (fun k => show (countL l (f.take k)).length ≤ 2000 by have h := count_len (f := f.take k) hs; rw [List.length_take] at h; omega)
  have HRS := Lib.hid (fun k => count_rise (f := f.take k) hs)
  clear hn hR
  unfold RowTo
  go_enter Try.func25, Try.ntmps25
  go_wp2_with fail
  go_loopw [0, 9] (fun v i wr => RcRel l f w v i wr) (fun _ i _ => n - (intOf i).toNat)
  case atStart => exact ⟨0, Nat.zero_le _, rfl, HV.out, Below.refl _ _⟩
  case round =>
    obtain ⟨k, hk, rfl, hrow, hbel⟩ := hrel
    rw [Hn.out] at hk
    have HB := Lib.hid hbel
    have RO := Lib.hid hrow
    have RF := Lib.hid (HU.out.below hbel)
    clear hbel
    obtain ⟨A5, c5, rfl, -⟩ := hrow
    by_cases hlt : k < n
    · obtain ⟨y, hi⟩ : ∃ y, f[k]? = some y := ⟨_, List.getElem?_eq_getElem (by rw [Hn.out]; exact hlt)⟩
      have HCN := Lib.hid (show countL l (f.take (k + 1)) = withL (countL l (f.take k)) y by rw [take_snoc hi, count_snoc])
      obtain ⟨b1, o1, c6, e', hc', hb1, hX⟩ := RF.out.at_ hi
      injection e' with e1 e2 e3
      clear e2
      subst e1 e3
      have k0 := hX 0 _ rfl
      have k1 := hX 1 _ rfl
      clear hX hi
      simp only [Nat.add_zero] at k0 k1
      have HW := Lib.hid (fun W (h : Row Cl.cs 2 W (.slice A5 (countL l (f.take k)).length c5) (countL l (f.take k))) => rwith_any (countL l (f.take k)) y _ W h (by have := HL.out k; omega))
      obtain ⟨yn, yb⟩ := y
      simp only at k0 k1 HW
      obtain ⟨m, hm⟩ : ∃ m, (countL l (f.take k)).length = m := ⟨_, rfl⟩
      rw [hm] at HW RO ⊢
      clear hm
      go_wp2_with fail
      refine (HW.out _ (RO.out.alloc _)).mono ?_
      rintro e w7 ⟨v7, rfl, hr7, hb7⟩
      have HR7 := Lib.hid hr7
      have HB7 := Lib.hid (bThen (bel_alloc HB.out _) hb7)
      clear hr7 hb7 k0 k1
      go_wp2_with fail
      go_roundw
      case rel => exact ⟨k + 1, by rw [Hn.out]; omega, by go_num, by rw [HCN.out]; exact HR7.out, HB7.out⟩
      case measure => simp [intOf]; omega
    · obtain rfl : k = n := by omega
      have HRR := Lib.hid (show countL l (f.take k) = R by rw [List.take_of_length_le (by rw [Hn.out]; exact Nat.le_refl _)]; exact HR.out)
      go_wp2_with fail
      go_ret
      exact ⟨_, rfl, by rw [← HRR.out]; exact RO.out, HB.out⟩
end Go.Proofs.Ytlboehpgpbchhaa
