/-
  WALKS of the top laws: what comes of panes.
-/
import Derived.Test.YtlboehpgpbchhaaTopW11
import Derived.Deep.RegionLaw
import Derived.Deep.RegionHeldLaw
import Derived.Deep.CutRange
set_option linter.unusedVariables false
set_option linter.unusedSimpArgs false
namespace Go.Proofs.Ytlboehpgpbchhaa
open Go.RowKit

/-- What comes of a pane. -/
def rsOf (q : Pn × Int) : List Value := [.int .i64 q.1.lo, .int .i64 q.1.hi, .string q.1.k, .int .i64 q.1.n, .int .i64 q.2]
theorem rsOf_len (q : Pn × Int) : (rsOf q).length = 5 := rfl
theorem info_pr : (Try.prog.info? 71).map (fun i => (i.zero, i.size, i.bytes)) = some (some (.agg #[.int .i64 0, .int .i64 0, .string ⟨#[]⟩, .int .i64 0, .int .i64 0]), 5, 48) := by kernel_rfl
/-- What pane.Results tells: none, or one of each pane. -/
def RsTo (f : Int) (l : List Pn) (w : World) (e : Ending) (w' : World) : Prop :=
  ∃ (v : Value) (qs : List (Pn × Int)), e = .returned v ∧ w'.ownsRow w.heap.size 71 5 v qs.length (qs.flatMap rsOf) ∧ (∀ q ∈ qs, i64B q.2) ∧ (if prB l = true ∧ fR f = true then qs.map Prod.fst = l else qs = []) ∧ Below w.heap.size w w'
def RsRel (l : List Pn) (w0 w : World) (vo i : Value) (wr : World) : Prop :=
  ∃ (k : Nat) (qs : List (Pn × Int)), k ≤ l.length ∧ i = .int .i64 k ∧ qs.map Prod.fst = l.take k ∧ (∀ q ∈ qs, i64B q.2) ∧ wr.ownsRow w.heap.size 71 5 vo k (qs.flatMap rsOf) ∧ Below w.heap.size w wr
theorem keepR {W w' : World} {g : Nat} {a0 a1 a2 a3 a4 a5 : Value} (h : Below W.heap.size W w' ∧ w'.cell? ⟨g, 0, none⟩ = some a0 ∧ w'.cell? ⟨g, 1, none⟩ = some a1 ∧ w'.cell? ⟨g, 2, none⟩ = some a2 ∧ w'.cell? ⟨g, 3, none⟩ = some a3 ∧ w'.cell? ⟨g, 4, none⟩ = some a4 ∧ w'.cell? ⟨g, 5, none⟩ = some a5) : Below W.heap.size W w'.drew ∧ w'.drew.cell? ⟨g, 0, none⟩ = some a0 ∧ w'.drew.cell? ⟨g, 1, none⟩ = some a1 ∧ w'.drew.cell? ⟨g, 2, none⟩ = some a2 ∧ w'.drew.cell? ⟨g, 3, none⟩ = some a3 ∧ w'.drew.cell? ⟨g, 4, none⟩ = some a4 ∧ w'.drew.cell? ⟨g, 5, none⟩ = some a5 := ⟨Below.drew h.1, h.2⟩
theorem keepRb {W w' : World} {g : Nat} {a0 a1 a2 a3 a4 a5 : Value} {w'' : World} (h : Below W.heap.size W w' ∧ w'.cell? ⟨g, 0, none⟩ = some a0 ∧ w'.cell? ⟨g, 1, none⟩ = some a1 ∧ w'.cell? ⟨g, 2, none⟩ = some a2 ∧ w'.cell? ⟨g, 3, none⟩ = some a3 ∧ w'.cell? ⟨g, 4, none⟩ = some a4 ∧ w'.cell? ⟨g, 5, none⟩ = some a5) (hb : Below w'.heap.size w' w'') : Below W.heap.size W w'' ∧ w''.cell? ⟨g, 0, none⟩ = some a0 ∧ w''.cell? ⟨g, 1, none⟩ = some a1 ∧ w''.cell? ⟨g, 2, none⟩ = some a2 ∧ w''.cell? ⟨g, 3, none⟩ = some a3 ∧ w''.cell? ⟨g, 4, none⟩ = some a4 ∧ w''.cell? ⟨g, 5, none⟩ = some a5 := by
  obtain ⟨b, c0, c1, c2, c3, c4, c5⟩ := h
  have hg : g < w'.heap.size := World.block_lt_of_cell? w' ⟨g, 0, none⟩ c0
  exact ⟨bThen b hb, (hb.cell (p := ⟨g, 0, none⟩) hg).trans c0, (hb.cell (p := ⟨g, 1, none⟩) hg).trans c1, (hb.cell (p := ⟨g, 2, none⟩) hg).trans c2, (hb.cell (p := ⟨g, 3, none⟩) hg).trans c3, (hb.cell (p := ⟨g, 4, none⟩) hg).trans c4, (hb.cell (p := ⟨g, 5, none⟩) hg).trans c5⟩
theorem keepRa {W w' : World} {g : Nat} {a0 a1 a2 a3 a4 a5 : Value} (h : Below W.heap.size W w' ∧ w'.cell? ⟨g, 0, none⟩ = some a0 ∧ w'.cell? ⟨g, 1, none⟩ = some a1 ∧ w'.cell? ⟨g, 2, none⟩ = some a2 ∧ w'.cell? ⟨g, 3, none⟩ = some a3 ∧ w'.cell? ⟨g, 4, none⟩ = some a4 ∧ w'.cell? ⟨g, 5, none⟩ = some a5) (o : Obj) : Below W.heap.size W (w'.alloc o) ∧ (w'.alloc o).cell? ⟨g, 0, none⟩ = some a0 ∧ (w'.alloc o).cell? ⟨g, 1, none⟩ = some a1 ∧ (w'.alloc o).cell? ⟨g, 2, none⟩ = some a2 ∧ (w'.alloc o).cell? ⟨g, 3, none⟩ = some a3 ∧ (w'.alloc o).cell? ⟨g, 4, none⟩ = some a4 ∧ (w'.alloc o).cell? ⟨g, 5, none⟩ = some a5 := keepRb h (bel_alloc (Below.refl _ _) o)
theorem keepRg {W w' : World} {g : Nat} {a0 a1 a2 a3 a4 a5 : Value} {w'' : World} {r : Option Nat} (h : Below W.heap.size W w' ∧ w'.cell? ⟨g, 0, none⟩ = some a0 ∧ w'.cell? ⟨g, 1, none⟩ = some a1 ∧ w'.cell? ⟨g, 2, none⟩ = some a2 ∧ w'.cell? ⟨g, 3, none⟩ = some a3 ∧ w'.cell? ⟨g, 4, none⟩ = some a4 ∧ w'.cell? ⟨g, 5, none⟩ = some a5) (hg : w'.grownBy w'' r) (hne : r ≠ some g) (hlo : ∀ k, r = some k → W.heap.size ≤ k) : Below W.heap.size W w'' ∧ w''.cell? ⟨g, 0, none⟩ = some a0 ∧ w''.cell? ⟨g, 1, none⟩ = some a1 ∧ w''.cell? ⟨g, 2, none⟩ = some a2 ∧ w''.cell? ⟨g, 3, none⟩ = some a3 ∧ w''.cell? ⟨g, 4, none⟩ = some a4 ∧ w''.cell? ⟨g, 5, none⟩ = some a5 := by
  obtain ⟨b, c0, c1, c2, c3, c4, c5⟩ := h
  have hgl : g < w'.heap.size := World.block_lt_of_cell? w' ⟨g, 0, none⟩ c0
  have f : ∀ j u, w'.cell? ⟨g, j, none⟩ = some u → w''.cell? ⟨g, j, none⟩ = some u := fun j u h => by
    rw [← h]; unfold World.cell?; rw [hg.block g hgl (fun e => hne e.symm)]
  exact ⟨b.grown hg b.size hlo, f _ _ c0, f _ _ c1, f _ _ c2, f _ _ c3, f _ _ c4, f _ _ c5⟩
theorem rs_one (q : Pn × Int) : ∀ u ∈ rsOf q, u.oneCell' = true := by
  intro u hu
  simp [rsOf] at hu
  rcases hu with rfl | rfl | rfl | rfl | rfl <;> rfl
theorem rs_news (W : World) (cs : Array Value) (T : TypeId) (l : List Value) (h : cs.toList = l) : ∀ j u, l[j]? = some u → (W.alloc (.cells cs T)).cell? ((⟨W.heap.size, 0, none⟩ : Addr).add j) = some u := by
  intro j u hj
  rw [add_at, cellsAt (heap_at W _ _ rfl), Nat.zero_add, ← hj, ← h]
  exact Array.getElem?_toList.symm
set_option maxRecDepth 100000 in
set_option maxHeartbeats 4000000 in
theorem results_any (f : Int) (l : List Pn) (v : Value) (w : World) (hv : Row Pn.cs 6 w v l) (hwf : ∀ p ∈ l, p.Wf) (hm : l.length ≤ maxLen) :
    Calls Try.prog 55 #[.int .i64 f, v] w (RsTo f l w) := by
  have HV := Lib.hid hv
  have HR := Lib.hid (pright_any l v w hv (fun p hp => (hwf p hp).2.2.1) hm)
  have HF := Lib.hid (fun w => fright_any f w)
  have HVL := Lib.hid (fun n a b w h1 h2 h3 => val_any f n a b w h1 h2 h3)
  have HWF := Lib.hid hwf
  obtain ⟨i0, hi, hz0, hz1, hz2⟩ := info_parts info_pr
  have HI := Lib.hid hi
  have HZ0 := Lib.hid hz0
  have HZ1 := Lib.hid hz1
  have HZ2 := Lib.hid hz2
  obtain ⟨bp, hbp⟩ : ∃ q, prB l = q := ⟨_, rfl⟩
  obtain ⟨bf, hbf⟩ : ∃ q, fR f = q := ⟨_, rfl⟩
  rw [hbp] at HR
  rw [hbf] at HF
  have HBP := Lib.hid hbp
  have HBF := Lib.hid hbf
  obtain ⟨A, c, rfl, hc, -⟩ := hv
  obtain ⟨n, hn⟩ : ∃ n, l.length = n := ⟨_, rfl⟩
  have HN := Lib.hid hn
  rw [hn] at hc hm HV HR ⊢
  have HM := Lib.hid hm
  clear hi hz0 hz1 hz2 hbp hbf hwf hn hm
  go_enter Try.func55, Try.ntmps55
  go_wp2_with fail
  refine (HR.out).mono ?_
  rintro e w2 ⟨rfl, hb2⟩
  have B2 := Lib.hid hb2
  clear hb2
  cases bp with
  | false =>
    go_wp2_with fail
    go_ret
    exact ⟨_, [], rfl, World.ownsRow_nil _ _ _ _, by simp, by rw [HBP.out]; simp, B2.out⟩
  | true =>
    have hn2 : n ≤ 2000 := by
      have := HBP.out
      unfold prB at this
      rw [HN.out] at this
      simp at this
      exact this.1
    go_wp2_with fail
    refine (HF.out _).mono ?_
    rintro e w3 ⟨rfl, rfl⟩
    cases bf with
    | false =>
      go_wp2_with fail
      go_ret
      exact ⟨_, [], rfl, World.ownsRow_nil _ _ _ _, by simp, by rw [HBF.out]; simp, B2.out⟩
    | true =>
      go_wp2_with fail
      go_loopw [5, 18] (fun vo i wr => RsRel l w3 w vo i wr) (fun _ i _ => n - (intOf i).toNat)
      case atStart => exact ⟨0, [], Nat.zero_le _, rfl, rfl, by simp, World.ownsRow_nil _ _ _ _, B2.out⟩
      case round =>
        obtain ⟨k, qs, hk, rfl, hqs, hqw, hown, hbel⟩ := hrel
        rw [HN.out] at hk
        have HQS := Lib.hid hqs
        have HQW := Lib.hid hqw
        have HO := Lib.hid hown
        have HB := Lib.hid hbel
        obtain ⟨Ao, co, rfl⟩ := own_slice hown
        clear hqs hqw hown hbel
        by_cases hlt : k < n
        rotate_left
        · obtain rfl : k = n := by omega
          have hql : qs.length = k := by have := congrArg List.length HQS.out; rw [List.length_map, ← HN.out, List.take_length] at this; rw [← HN.out]; exact this
          have HQL := Lib.hid hql
          clear hql
          go_wp2_with fail
          go_ret
          refine ⟨_, qs, rfl, by rw [HQL.out]; exact HO.out, HQW.out, ?_, HB.out⟩
          rw [if_pos ⟨HBP.out, HBF.out⟩, HQS.out, ← HN.out, List.take_length]
        obtain ⟨x, hi⟩ : ∃ x, l[k]? = some x := ⟨_, List.getElem?_eq_getElem (by rw [HN.out]; exact hlt)⟩
        have hrow := HV.out.below HB.out
        obtain ⟨b, o, c', hv', -, hb, hX⟩ := hrow.at_ hi
        rw [HN.out] at hv'
        injection hv' with e1 e2 e3
        subst e1 e3
        have c0 := hX 0 _ rfl
        have c1 := hX 1 _ rfl
        have c2 := hX 2 _ rfl
        have c3 := hX 3 _ rfl
        have c4 := hX 4 _ rfl
        have c5 := hX 5 _ rfl
        simp only [Nat.add_zero] at c0 c1 c2 c3 c4 c5
        have HXW := Lib.hid (HWF.out x (List.mem_of_getElem? hi))
        have HX := Lib.hid hi
        clear hX hrow hi
        obtain ⟨lo, hi, ks, pn, pa, pb⟩ := x
        simp only at c0 c1 c2 c3 c4 c5
        go_upto_region 7 with fail
        obtain ⟨W4, hW4⟩ : ∃ X, X = wr.alloc (.cells #[.int .i64 lo, .int .i64 hi, .string ks, .int .i64 pn, .int .i64 pa, .int .i64 pb] 59) := ⟨_, rfl⟩
        rw [← hW4]
        have B4 := Lib.hid (show Below wr.heap.size wr W4 by rw [hW4]; exact bel_alloc (Below.refl _ _) _)
        have Bp := Lib.hid (show W4.heap[wr.heap.size]? = some (.cells #[.int .i64 lo, .int .i64 hi, .string ks, .int .i64 pn, .int .i64 pa, .int .i64 pb] 59 (0, 0)) by rw [hW4]; exact heap_at _ _ _ rfl)
        clear hW4 c0 c1 c2 c3 c4 c5
        have O4 := Lib.hid (own_below HO.out B4.out)
        have BB := Lib.hid (bThen HB.out B4.out)
        have zp := blk_lt Bp.out
        have xp0 := cellsAt Bp.out 0
        have xp1 := cellsAt Bp.out 1
        have xp2 := cellsAt Bp.out 2
        have xp3 := cellsAt Bp.out 3
        have xp4 := cellsAt Bp.out 4
        have xp5 := cellsAt Bp.out 5
        simp at xp0 xp1 xp2 xp3 xp4 xp5
        have hS : Below w.heap.size w W4 ∧ W4.cell? ⟨wr.heap.size, 0, none⟩ = some (.int .i64 lo) ∧ W4.cell? ⟨wr.heap.size, 1, none⟩ = some (.int .i64 hi) ∧ W4.cell? ⟨wr.heap.size, 2, none⟩ = some (.string ks) ∧ W4.cell? ⟨wr.heap.size, 3, none⟩ = some (.int .i64 pn) ∧ W4.cell? ⟨wr.heap.size, 4, none⟩ = some (.int .i64 pa) ∧ W4.cell? ⟨wr.heap.size, 5, none⟩ = some (.int .i64 pb) := ⟨BB.out, xp0, xp1, xp2, xp3, xp4, xp5⟩
        have hne : (Value.slice Ao k co).ownBlock ≠ some wr.heap.size := fun e => by have := (HO.out.lt _ e).2; omega
        have hlo : ∀ g, (Value.slice Ao k co).ownBlock = some g → w.heap.size ≤ g := fun g e => (HO.out.lt _ e).1
        go_region_held_law (fun w' => Below w.heap.size w w' ∧ w'.cell? ⟨wr.heap.size, 0, none⟩ = some (.int .i64 lo) ∧ w'.cell? ⟨wr.heap.size, 1, none⟩ = some (.int .i64 hi) ∧ w'.cell? ⟨wr.heap.size, 2, none⟩ = some (.string ks) ∧ w'.cell? ⟨wr.heap.size, 3, none⟩ = some (.int .i64 pn) ∧ w'.cell? ⟨wr.heap.size, 4, none⟩ = some (.int .i64 pa) ∧ w'.cell? ⟨wr.heap.size, 5, none⟩ = some (.int .i64 pb)) (first | assumption | exact keepR (by assumption) | exact keepRb (by assumption) (by assumption) | exact keepRg (by assumption) (by assumption) hne hlo | exact keepRa (by assumption) _) (first | (go_at_call 74; refine (HVL.out _ _ _ _ HXW.out.2.2.2.1 HXW.out.2.2.2.2.1 HXW.out.2.2.2.2.2).mono ?_; rintro e w5 ⟨⟨y, rfl, hy⟩, hb5⟩; have O5 := own_below O4.out (bUndrewQ hb5); have B5 := bThen BB.out (bUndrewQ hb5)) | (refine step_own rfl _ _ 63 rfl w.heap.size 71 i0 (.agg #[.int .i64 0, .int .i64 0, .string ⟨#[]⟩, .int .i64 0, .int .i64 0]) 5 48 Try.underlying63 HI.out HZ0.out HZ1.out HZ2.out rfl (by decide) _ _ _ rfl (O5.alloc _) _ 1 _ (rsOf (⟨lo, hi, ks, pn, pa, pb⟩, y)) rfl rfl (rs_news _ _ _ _ rfl) (rs_one _) (by unfold maxLen; omega) (by omega) (by have := B5.size; simp; omega) ?_; intro v5 W5 hown5 hgrow5 _))
        all_goals
          go_wp2_with fail
          refine ⟨⟨k + 1, qs ++ [(⟨lo, hi, ks, pn, pa, pb⟩, y)], by rw [HN.out]; omega, by go_num, ?_, ?_, ?_, And.left (by assumption)⟩, by simp [intOf]; omega⟩
          · rw [List.map_append, HQS.out, List.take_add_one, HX.out]; rfl
          · intro q hq
            rcases List.mem_append.1 hq with h | h
            · exact HQW.out q h
            · simp at h; subst h; exact hy
          · rw [List.flatMap_append]
            simpa using hown5
end Go.Proofs.Ytlboehpgpbchhaa
