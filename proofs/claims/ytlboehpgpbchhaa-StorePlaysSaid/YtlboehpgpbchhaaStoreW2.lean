/-
  WALKS of layer 17: Right of the program.
-/
import Derived.Test.YtlboehpgpbchhaaStoreW1
set_option linter.unusedVariables false
set_option linter.unusedSimpArgs false
namespace Go.Proofs.Ytlboehpgpbchhaa
open Go.RowKit

def CrRel (l : List Cl) (W1 : World) (i : Value) (wr : World) : Prop := ∃ k : Nat, k ≤ l.length ∧ i = .int .i64 k ∧ (List.range k).all (okAt l) = true ∧ Below W1.heap.size W1 wr
set_option maxRecDepth 100000 in
set_option maxHeartbeats 4000000 in
theorem sright_any (l f : List Cl) (d : Bool) (v u : Value) (w : World) (hv : OkRow w v l) (hu : OkRow w u f) (b : Bool) (hb : rightB l f = b) :
    Calls Try.prog 11 #[.agg #[v, u, .bool d]] w fun e w' => e = .returned (.bool b) ∧ Below w.heap.size w w' := by
  obtain ⟨hv, hok, hl⟩ := hv
  obtain ⟨hu, hok2, hl2⟩ := hu
  have RL := Lib.hid hv
  have RF := Lib.hid hu
  obtain ⟨qa, hqa⟩ : ∃ q, (decide (l.length ≤ 64) && allC l) = q := ⟨_, rfl⟩
  obtain ⟨qf, hqf⟩ : ∃ q, (decide (f.length ≤ 64) && allC f) = q := ⟨_, rfl⟩
  have HA := Lib.hid (fun W h => all_any l v W h hl hok qa hqa)
  have HF := Lib.hid (fun W h => all_any f u W h hl2 hok2 qf hqf)
  obtain ⟨A, c, rfl, -⟩ := hv
  obtain ⟨A', c', rfl, -⟩ := hu
  obtain ⟨m, hm⟩ : ∃ m, l.length = m := ⟨_, rfl⟩
  obtain ⟨m2, hm2⟩ : ∃ m, f.length = m := ⟨_, rfl⟩
  rw [hm] at RL HA hl ⊢
  rw [hm2] at RF HF ⊢
  have Hm := Lib.hid hm
  unfold rightB at hb
  rw [hqa, hqf] at hb
  have HBB := Lib.hid hb
  clear hm hm2 hok hok2 hqa hqf hb
  go_enter Try.func11, Try.ntmps11
  go_wp2_with fail
  obtain ⟨W1, hW2⟩ : ∃ X, X = (w).alloc (.cells #[.slice A m c, .slice A' m2 c', .bool d] 24) := ⟨_, rfl⟩
  rw [← hW2]
  have hb3 : Below w.heap.size w W1 := by rw [hW2]; exact bel_alloc (Below.refl _ _) _
  have Ns := Lib.hid (show W1.heap[w.heap.size]? = some (.cells #[.slice A m c, .slice A' m2 c', .bool d] 24 (0, 0)) by rw [hW2]; exact heap_at (w) _ (w.heap.size) (by simp))
  clear hW2
  have BB4 := Lib.hid hb3
  clear hb3
  have Bls := Ns
  clear Ns
  have R1 := Lib.hid (RL.out.below BB4.out)
  have R2 := Lib.hid (RF.out.below BB4.out)
  refine (HA.out _ R1.out).mono ?_
  rintro e w5 ⟨rfl, hb6⟩
  have Z := Lib.hid (heap_below Bls.out hb6)
  clear Bls
  have Bls := Z
  clear Z
  have Z := Lib.hid (Row.below R1.out hb6)
  clear R1
  have R1 := Z
  clear Z
  have Z := Lib.hid (Row.below R2.out hb6)
  clear R2
  have R2 := Z
  clear Z
  have BB7 := Lib.hid (bThen BB4.out hb6)
  clear hb6
  have zs := blk_lt Bls.out
  have xs0 := cellsAt Bls.out 0
  have xs1 := cellsAt Bls.out 1
  have xs2 := cellsAt Bls.out 2
  have fs := frozAt Bls.out
  simp at xs0 xs1 xs2
  cases qa with
  | false =>
    have hbb := HBB.out
    rw [Bool.false_and, Bool.false_and] at hbb
    subst hbb
    go_wp2_with fail
    go_ret
    exact ⟨rfl, BB7.out⟩
  | true =>
    go_wp2_with fail
    refine (HF.out _ R2.out).mono ?_
    rintro e w8 ⟨rfl, hb9⟩
    clear zs fs xs0 xs1 xs2
    have Z := Lib.hid (heap_below Bls.out hb9)
    clear Bls
    have Bls := Z
    clear Z
    have Z := Lib.hid (Row.below R1.out hb9)
    clear R1
    have R1 := Z
    clear Z
    have Z := Lib.hid (Row.below R2.out hb9)
    clear R2
    have R2 := Z
    clear Z
    have BB10 := Lib.hid (bThen BB7.out hb9)
    clear hb9
    have zs := blk_lt Bls.out
    have xs0 := cellsAt Bls.out 0
    have xs1 := cellsAt Bls.out 1
    have xs2 := cellsAt Bls.out 2
    have fs := frozAt Bls.out
    simp at xs0 xs1 xs2
    cases qf with
    | false =>
      have hbb := HBB.out
      rw [Bool.and_false, Bool.false_and] at hbb
      subst hbb
      go_wp2_with fail
      go_ret
      exact ⟨rfl, BB10.out⟩
    | true =>
      have HB2 := Lib.hid (show okC l = b by have hbb := HBB.out; simpa using hbb)
      go_wp2_with fail
      clear zs fs xs0 xs1 xs2
      go_loopw [18] (fun i wr => CrRel l w8 i wr) (fun i _ => m - (intOf i).toNat)
      case atStart => exact ⟨0, Nat.zero_le _, rfl, rfl, Below.refl _ _⟩
      case round =>
        obtain ⟨k, hk, rfl, hall, hbj⟩ := hrel
        rw [Hm.out] at hk
        have BJ := Lib.hid hbj
        have HALL := Lib.hid hall
        clear hall
        have Z := Lib.hid (heap_below Bls.out hbj)
        clear Bls
        have Bls := Z
        clear Z
        have Z := Lib.hid (Row.below R1.out hbj)
        clear R1
        have R1 := Z
        clear Z
        have Z := Lib.hid (Row.below R2.out hbj)
        clear R2
        have R2 := Z
        clear Z
        have BB11 := Lib.hid (bThen BB10.out hbj)
        clear hbj
        by_cases hlt : k < m
        · obtain ⟨x, hi⟩ : ∃ x, l[k]? = some x := ⟨_, List.getElem?_eq_getElem (by rw [Hm.out]; exact hlt)⟩
          have HX := Lib.hid hi
          obtain ⟨b1, o1, c3, e', hc', hb1, hX⟩ := R1.out.at_ hi
          injection e' with e1 e2 e3
          clear e2
          subst e1 e3
          have k0 := hX 0 _ rfl
          have k1 := hX 1 _ rfl
          clear hX hi
          simp only [Nat.add_zero] at k0 k1
          have HCK := Lib.hid (show okAt l k = (!noB x.b && (decide (k = 0) || ltS l[k - 1]!.n x.n)) by unfold okAt; rw [at_get HX.out])
          obtain ⟨xn, xb⟩ := x
          simp only at k0 k1 HCK
          have zs := blk_lt Bls.out
          have xs0 := cellsAt Bls.out 0
          have xs1 := cellsAt Bls.out 1
          have xs2 := cellsAt Bls.out 2
          have fs := frozAt Bls.out
          simp at xs0 xs1 xs2
          go_upto_region 6 with fail
          clear k0 k1
          obtain ⟨W12, hW13⟩ : ∃ X, X = (wr).alloc (.cells #[.string xn, .string xb] 43) := ⟨_, rfl⟩
          rw [← hW13]
          have hb14 : Below wr.heap.size wr W12 := by rw [hW13]; exact bel_alloc (Below.refl _ _) _
          have HBC0 := Lib.hid hb14
          have Nc := Lib.hid (show W12.heap[wr.heap.size]? = some (.cells #[.string xn, .string xb] 43 (0, 0)) by rw [hW13]; exact heap_at (wr) _ (wr.heap.size) (by simp))
          clear hW13
          have Z := Lib.hid (heap_below Bls.out hb14)
          clear Bls
          have Bls := Z
          clear Z
          have Z := Lib.hid (Row.below R1.out hb14)
          clear R1
          have R1 := Z
          clear Z
          have Z := Lib.hid (Row.below R2.out hb14)
          clear R2
          have R2 := Z
          clear Z
          have BB15 := Lib.hid (bThen BB11.out hb14)
          clear hb14
          have Blc := Nc
          clear Nc
          clear zs fs xs0 xs1 xs2
          have zs := blk_lt Bls.out
          have xs0 := cellsAt Bls.out 0
          have xs1 := cellsAt Bls.out 1
          have xs2 := cellsAt Bls.out 2
          have fs := frozAt Bls.out
          simp at xs0 xs1 xs2
          have zc := blk_lt Blc.out
          have xc0 := cellsAt Blc.out 0
          have xc1 := cellsAt Blc.out 1
          have fc := frozAt Blc.out
          simp at xc0 xc1
          obtain ⟨z, hz⟩ : ∃ z, noB xb = z := ⟨_, rfl⟩
          rw [hz] at HCK
          unfold noB at hz
          cases z with
          | true =>
            have HCQ := Lib.hid (show okAt l k = false by rw [HCK.out]; rfl)
            go_quiet (fail)
            obtain ⟨W16, hW17⟩ : ∃ X, X = W12.drewN nq := ⟨_, rfl⟩
            rw [← hW17]
            have hb18 : Below W12.heap.size W12 W16 := by rw [hW17]; exact bDrewN (Below.refl _ _)
            have HQD := Lib.hid hb18
            clear hW17
            clear zs fs xs0 xs1 xs2 zc fc xc0 xc1
            have Z := Lib.hid (heap_below Bls.out hb18)
            clear Bls
            have Bls := Z
            clear Z
            have Z := Lib.hid (heap_below Blc.out hb18)
            clear Blc
            have Blc := Z
            clear Z
            have Z := Lib.hid (Row.below R1.out hb18)
            clear R1
            have R1 := Z
            clear Z
            have Z := Lib.hid (Row.below R2.out hb18)
            clear R2
            have R2 := Z
            clear Z
            have BB19 := Lib.hid (bThen BB15.out hb18)
            clear hb18
            have zs := blk_lt Bls.out
            have xs0 := cellsAt Bls.out 0
            have xs1 := cellsAt Bls.out 1
            have xs2 := cellsAt Bls.out 2
            have fs := frozAt Bls.out
            simp at xs0 xs1 xs2
            have hbq := bThen (bThen BJ.out HBC0.out) HQD.out
            have hbb := HB2.out
            unfold okC at hbb
            rw [Hm.out, all_range_not _ hlt HCQ.out] at hbb
            subst hbb
            clear hbq
            go_wp2_with fail
            go_ret
            exact ⟨rfl, BB19.out⟩
          | false =>
            by_cases hk0 : k = 0
            · have HCQ := Lib.hid (show okAt l k = true by rw [HCK.out, decide_eq_true hk0]; rfl)
              have tk : decide (0 < (k : Int)) = false := by rw [hk0]; rfl
              have tk2 : decide (0 < k) = false := by rw [hk0]; rfl
              have HK0 := Lib.hid hk0
              clear hk0
              go_quiet (fail)
              obtain ⟨W16, hW17⟩ : ∃ X, X = W12.drewN nq := ⟨_, rfl⟩
              rw [← hW17]
              have hb18 : Below W12.heap.size W12 W16 := by rw [hW17]; exact bDrewN (Below.refl _ _)
              have HQD := Lib.hid hb18
              clear hW17
              clear zs fs xs0 xs1 xs2 zc fc xc0 xc1
              have Z := Lib.hid (heap_below Bls.out hb18)
              clear Bls
              have Bls := Z
              clear Z
              have Z := Lib.hid (heap_below Blc.out hb18)
              clear Blc
              have Blc := Z
              clear Z
              have Z := Lib.hid (Row.below R1.out hb18)
              clear R1
              have R1 := Z
              clear Z
              have Z := Lib.hid (Row.below R2.out hb18)
              clear R2
              have R2 := Z
              clear Z
              have BB19 := Lib.hid (bThen BB15.out hb18)
              clear hb18
              have zs := blk_lt Bls.out
              have xs0 := cellsAt Bls.out 0
              have xs1 := cellsAt Bls.out 1
              have xs2 := cellsAt Bls.out 2
              have fs := frozAt Bls.out
              simp at xs0 xs1 xs2
              have hbq := bThen (bThen BJ.out HBC0.out) HQD.out
              go_wp2_with fail
              go_roundw
              case rel => exact ⟨k + 1, by rw [Hm.out]; omega, by go_num, by rw [all_range_succ, HALL.out, HCQ.out]; rfl, hbq⟩
              case measure => simp [intOf]; omega
            · have tk : decide (0 < (k : Int)) = true := by simp; omega
              have tkn : decide (0 < k) = true := by simp; omega
              have hk1 : (1 : Int) ≤ (k : Int) := by omega
              have hk1n : 0 < k := by omega
              obtain ⟨y, hy⟩ : ∃ y, l[k - 1]? = some y := ⟨_, List.getElem?_eq_getElem (by rw [Hm.out]; omega)⟩
              have hyb := at_get hy
              obtain ⟨b2, o2, c4, e', -, hb2', hX⟩ := R1.out.at_ hy
              injection e' with e1 e2 e3
              clear e2
              injection e1 with e1
              injection e1 with e1 e1b
              subst e1 e1b e3
              have kp := hX 0 _ rfl
              clear hX hy
              rw [hyb, decide_eq_false hk0, Bool.false_or, Bool.not_false, Bool.true_and] at HCK
              obtain ⟨yn, yb⟩ := y
              simp only [Nat.add_zero] at kp HCK
              clear hyb
              have hkm : ((k : Int) - 1).toNat = k - 1 := by omega
              have hkm2 : (0 : Int) ≤ (k : Int) - 1 := by omega
              have hkm3 : (k : Int) - 1 < (m : Int) := by omega
              have hw1 : IntKind.i64.wrap ((k : Int) - 1) = (k : Int) - 1 := by rw [IntKind.wrap_i64]; omega
              obtain ⟨q, hq⟩ : ∃ q, ltS yn xn = q := ⟨_, rfl⟩
              rw [hq] at HCK
              unfold ltS at hq
              cases q with
              | true =>
                have HCQ := HCK
                go_quiet (fail)
                obtain ⟨W16, hW17⟩ : ∃ X, X = W12.drewN nq := ⟨_, rfl⟩
                rw [← hW17]
                have hb18 : Below W12.heap.size W12 W16 := by rw [hW17]; exact bDrewN (Below.refl _ _)
                have HQD := Lib.hid hb18
                clear hW17
                clear zs fs xs0 xs1 xs2 zc fc xc0 xc1
                have Z := Lib.hid (heap_below Bls.out hb18)
                clear Bls
                have Bls := Z
                clear Z
                have Z := Lib.hid (heap_below Blc.out hb18)
                clear Blc
                have Blc := Z
                clear Z
                have Z := Lib.hid (Row.below R1.out hb18)
                clear R1
                have R1 := Z
                clear Z
                have Z := Lib.hid (Row.below R2.out hb18)
                clear R2
                have R2 := Z
                clear Z
                have BB19 := Lib.hid (bThen BB15.out hb18)
                clear hb18
                have zs := blk_lt Bls.out
                have xs0 := cellsAt Bls.out 0
                have xs1 := cellsAt Bls.out 1
                have xs2 := cellsAt Bls.out 2
                have fs := frozAt Bls.out
                simp at xs0 xs1 xs2
                have hbq := bThen (bThen BJ.out HBC0.out) HQD.out
                go_wp2_with fail
                go_roundw
                case rel => exact ⟨k + 1, by rw [Hm.out]; omega, by go_num, by rw [all_range_succ, HALL.out, HCQ.out]; rfl, hbq⟩
                case measure => simp [intOf]; omega
              | false =>
                have HCQ := HCK
                go_quiet (fail)
                obtain ⟨W16, hW17⟩ : ∃ X, X = W12.drewN nq := ⟨_, rfl⟩
                rw [← hW17]
                have hb18 : Below W12.heap.size W12 W16 := by rw [hW17]; exact bDrewN (Below.refl _ _)
                have HQD := Lib.hid hb18
                clear hW17
                clear zs fs xs0 xs1 xs2 zc fc xc0 xc1
                have Z := Lib.hid (heap_below Bls.out hb18)
                clear Bls
                have Bls := Z
                clear Z
                have Z := Lib.hid (heap_below Blc.out hb18)
                clear Blc
                have Blc := Z
                clear Z
                have Z := Lib.hid (Row.below R1.out hb18)
                clear R1
                have R1 := Z
                clear Z
                have Z := Lib.hid (Row.below R2.out hb18)
                clear R2
                have R2 := Z
                clear Z
                have BB19 := Lib.hid (bThen BB15.out hb18)
                clear hb18
                have zs := blk_lt Bls.out
                have xs0 := cellsAt Bls.out 0
                have xs1 := cellsAt Bls.out 1
                have xs2 := cellsAt Bls.out 2
                have fs := frozAt Bls.out
                simp at xs0 xs1 xs2
                have hbq := bThen (bThen BJ.out HBC0.out) HQD.out
                have hbb := HB2.out
                unfold okC at hbb
                rw [Hm.out, all_range_not _ hlt HCQ.out] at hbb
                subst hbb
                clear hbq
                go_wp2_with fail
                go_ret
                exact ⟨rfl, BB19.out⟩
        · obtain rfl : k = m := by omega
          have hbb := HB2.out
          unfold okC at hbb
          rw [Hm.out, HALL.out] at hbb
          subst hbb
          go_wp2_with fail
          go_ret
          exact ⟨rfl, BB11.out⟩
end Go.Proofs.Ytlboehpgpbchhaa
