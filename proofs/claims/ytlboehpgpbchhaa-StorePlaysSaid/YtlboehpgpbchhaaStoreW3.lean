/-
  WALKS of layer 17: Right of the reference.
-/
import Derived.Test.YtlboehpgpbchhaaStoreW2
set_option linter.unusedVariables false
set_option linter.unusedSimpArgs false
namespace Go.Proofs.Ytlboehpgpbchhaa
open Go.RowKit

def rokAt (l : List Cl) (i : Nat) : Bool := mayC l[i]! && okAt l i
theorem all_and (p q : Nat → Bool) (n : Nat) : (List.range n).all (fun i => p i && q i) = ((List.range n).all p && (List.range n).all q) := by
  induction n with
  | zero => rfl
  | succ n ih =>
    rw [all_range_succ, all_range_succ, all_range_succ, ih]
    cases (List.range n).all p <;> cases (List.range n).all q <;> cases p n <;> cases q n <;> rfl
theorem right_r (l f : List Cl) : rightB l f = ((List.range l.length).all (rokAt l) && (allC f && (decide (l.length ≤ 64) && decide (f.length ≤ 64)))) := by
  unfold rightB okC allC
  rw [show rokAt l = (fun i => mayC l[i]! && okAt l i) from rfl, all_and]
  cases decide (l.length ≤ 64) <;> cases decide (f.length ≤ 64) <;> cases (List.range l.length).all (okAt l) <;> cases (List.range l.length).all (fun i => mayC l[i]!) <;> cases (List.range f.length).all (fun i => mayC f[i]!) <;> rfl
def RrRel (l : List Cl) (W1 : World) (i : Value) (wr : World) : Prop := ∃ k : Nat, k ≤ l.length ∧ i = .int .i64 k ∧ (List.range k).all (rokAt l) = true ∧ Below W1.heap.size W1 wr
def RfRel (f : List Cl) (W1 : World) (i : Value) (wr : World) : Prop := ∃ k : Nat, k ≤ f.length ∧ i = .int .i64 k ∧ (List.range k).all (fun i => mayC f[i]!) = true ∧ Below W1.heap.size W1 wr
theorem yieldU : (yielded.match_1 (fun _ => Option Bool) (some undef) (fun b => some b) (fun _ => none)) = none := rfl
theorem bUndrewC {W w' : World} (h : Below W.drew.heap.size W.drew w') : Below W.heap.size W w' := ⟨h.os, h.tape, h.output, h.size, h.block⟩
set_option maxRecDepth 100000 in
set_option maxHeartbeats 4000000 in
theorem rright_any (l f : List Cl) (d : Bool) (v u : Value) (w : World) (hv : OkRow w v l) (hu : OkRow w u f) (b : Bool) (hb : rightB l f = b) :
    Calls Try.prog 24 #[.agg #[v, u, .bool d]] w fun e w' => e = .returned (.bool b) ∧ Below w.heap.size w w' := by
  obtain ⟨hv, hok, hl⟩ := hv
  obtain ⟨hu, hok2, hl2⟩ := hu
  have RL := Lib.hid hv
  have RF := Lib.hid hu
  obtain ⟨A, c, rfl, -⟩ := hv
  obtain ⟨A', c', rfl, -⟩ := hu
  obtain ⟨m, hm⟩ : ∃ m, l.length = m := ⟨_, rfl⟩
  obtain ⟨m2, hm2⟩ : ∃ m, f.length = m := ⟨_, rfl⟩
  rw [right_r, hm, hm2] at hb
  rw [hm] at RL hl ⊢
  rw [hm2] at RF hl2 ⊢
  have Hm := Lib.hid hm
  have Hm2 := Lib.hid hm2
  have HBB := Lib.hid hb
  have HOK := Lib.hid hok
  have HOK2 := Lib.hid hok2
  clear hm hm2 hok hok2 hb
  go_enter Try.func24, Try.ntmps24
  go_wp2_with fail
  obtain ⟨W1, hW2⟩ : ∃ X, X = (w).alloc (.cells #[.slice A m c, .slice A' m2 c', .bool d] 24) := ⟨_, rfl⟩
  rw [← hW2]
  have hb3 : Below w.heap.size w W1 := by rw [hW2]; exact bel_alloc (Below.refl _ _) _
  have Ns := Lib.hid (show W1.heap[w.heap.size]? = some (.cells #[.slice A m c, .slice A' m2 c', .bool d] 24 (0, 0)) by rw [hW2]; exact heap_at (w) _ (w.heap.size) (by simp))
  clear hW2
  have BB4 := Lib.hid hb3
  clear hb3
  have Bls := Ns
  clear Ns
  have R1 := Lib.hid (RL.out.below BB4.out)
  have R2 := Lib.hid (RF.out.below BB4.out)
  have zs := blk_lt Bls.out
  have xs0 := cellsAt Bls.out 0
  have xs1 := cellsAt Bls.out 1
  have xs2 := cellsAt Bls.out 2
  have fs := frozAt Bls.out
  simp at xs0 xs1 xs2
  go_wp2_with fail
  clear zs fs xs0 xs1 xs2
  go_loopw [10] (fun i wr => RrRel l W1 i wr) (fun i _ => m - (intOf i).toNat)
  case atStart => exact ⟨0, Nat.zero_le _, rfl, rfl, Below.refl _ _⟩
  case round =>
    obtain ⟨k, hk, rfl, hall, hbj⟩ := hrel
    rw [Hm.out] at hk
    have BJ := Lib.hid hbj
    have HALL := Lib.hid hall
    clear hall
    have Z := Lib.hid (heap_below Bls.out hbj)
    clear Bls
    have Bls := Z
    clear Z
    have Z := Lib.hid (Row.below R1.out hbj)
    clear R1
    have R1 := Z
    clear Z
    have Z := Lib.hid (Row.below R2.out hbj)
    clear R2
    have R2 := Z
    clear Z
    have BB5 := Lib.hid (bThen BB4.out hbj)
    clear hbj
    by_cases hlt : k < m
    · obtain ⟨x, hi⟩ : ∃ x, l[k]? = some x := ⟨_, List.getElem?_eq_getElem (by rw [Hm.out]; exact hlt)⟩
      have HX := Lib.hid hi
      have hxo := HOK.out x (List.mem_of_getElem? hi)
      obtain ⟨b1, o1, c3, e', hc', hb1, hX⟩ := R1.out.at_ hi
      injection e' with e1 e2 e3
      clear e2
      subst e1 e3
      have k0 := hX 0 _ rfl
      have k1 := hX 1 _ rfl
      clear hX hi
      simp only [Nat.add_zero] at k0 k1
      obtain ⟨bm, hbm⟩ : ∃ q, mayC x = q := ⟨_, rfl⟩
      have HP := Lib.hid (fun W => rmay_any x W bm hbm hxo)
      have HCK := Lib.hid (show rokAt l k = (bm && (!noB x.b && (decide (k = 0) || ltS l[k - 1]!.n x.n))) by unfold rokAt okAt; rw [at_get HX.out, hbm])
      clear hbm hxo
      obtain ⟨xn, xb⟩ := x
      simp only at k0 k1 HP HCK
      go_upto_region 4 with fail
      clear k0 k1
      obtain ⟨W6, hW7⟩ : ∃ X, X = (wr).alloc (.cells #[.string xn, .string xb] 43) := ⟨_, rfl⟩
      rw [← hW7]
      have hb8 : Below wr.heap.size wr W6 := by rw [hW7]; exact bel_alloc (Below.refl _ _) _
      have HBC0 := Lib.hid hb8
      have Nc := Lib.hid (show W6.heap[wr.heap.size]? = some (.cells #[.string xn, .string xb] 43 (0, 0)) by rw [hW7]; exact heap_at (wr) _ (wr.heap.size) (by simp))
      clear hW7
      have Z := Lib.hid (heap_below Bls.out hb8)
      clear Bls
      have Bls := Z
      clear Z
      have Z := Lib.hid (Row.below R1.out hb8)
      clear R1
      have R1 := Z
      clear Z
      have Z := Lib.hid (Row.below R2.out hb8)
      clear R2
      have R2 := Z
      clear Z
      have BB9 := Lib.hid (bThen BB5.out hb8)
      clear hb8
      have Blc := Nc
      clear Nc
      obtain ⟨ck, hck⟩ : ∃ q, rokAt l k = q := ⟨_, rfl⟩
      rw [hck] at HCK
      have HCQ := Lib.hid hck
      clear hck
      go_cut [38] (fun v W => v = .bool (!ck) ∧ Below W6.heap.size W6 W)
      case first =>
        cases bm with
        | false =>
          have hck : ck = false := by rw [HCK.out]; rfl
          have zs := blk_lt Bls.out
          have xs0 := cellsAt Bls.out 0
          have xs1 := cellsAt Bls.out 1
          have xs2 := cellsAt Bls.out 2
          have fs := frozAt Bls.out
          simp at xs0 xs1 xs2
          have zc := blk_lt Blc.out
          have xc0 := cellsAt Blc.out 0
          have xc1 := cellsAt Blc.out 1
          have fc := frozAt Blc.out
          simp at xc0 xc1
          have hyu := yieldU
          refine wp_region_head2 (by kernel_rfl) (by kernel_rfl) (by kernel_rfl) (by kernel_rfl) (by kernel_rfl) rfl rfl ?_
          intro K1 hK1
          go_simp
          refine hK1 _ _ ?_
          intro K2 hK2
          go_simp
          go_at_call 44
          refine (HP.out _).mono ?_
          rintro e w2 ⟨rfl, hb2⟩
          have hB := (by first | exact hb2 | exact bUndrewC hb2 : Below W6.heap.size W6 w2)
          have X1 := heap_below Bls.out hB
          have X2 := heap_below Blc.out hB
          have zs2 := blk_lt X1
          have zc2 := blk_lt X2
          have ys0 := cellsAt X1 0
          have ys1 := cellsAt X1 1
          have ys2 := cellsAt X1 2
          have yc0 := cellsAt X2 0
          have yc1 := cellsAt X2 1
          simp at ys0 ys1 ys2 yc0 yc1
          refine hK2 _ _ ?_
          with_reducible refine wpStill_value (v := ?v1_17) (a' := ?a1_17) ?w1_17 ?x1_17 ?p1_17 ?_
          case w1_17 => kernel_rfl
          case x1_17 =>
            go_simp
            try rfl
          case p1_17 =>
            go_simp
            try rfl
          with_reducible refine wpStill_value (v := ?v1_18) (a' := ?a1_18) ?w1_18 ?x1_18 ?p1_18 ?_
          case w1_18 => kernel_rfl
          case x1_18 =>
            go_simp
            try rfl
          case p1_18 =>
            go_simp
            try rfl
          with_reducible refine wpStill_none (a' := ?a1_19) ?w1_19 ?p1_19 ?_
          case w1_19 => kernel_rfl
          case p1_19 =>
            go_simp
            try rfl
          with_reducible refine wpStill_none (a' := ?a1_20) ?w1_20 ?p1_20 ?_
          case w1_20 => kernel_rfl
          case p1_20 =>
            go_simp
            try rfl
          with_reducible refine wpStill_none (a' := ?a1_21) ?w1_21 ?p1_21 ?_
          case w1_21 => kernel_rfl
          case p1_21 =>
            go_simp
            try rfl
          with_reducible refine wpStill_value (v := ?v1_22) (a' := ?a1_22) ?w1_22 ?x1_22 ?p1_22 ?_
          case w1_22 => kernel_rfl
          case x1_22 =>
            go_simp
            try rfl
          case p1_22 =>
            go_simp
            try rfl
          with_reducible refine wpStill_value (v := ?v1_23) (a' := ?a1_23) ?w1_23 ?x1_23 ?p1_23 ?_
          case w1_23 => kernel_rfl
          case x1_23 =>
            go_simp
            try rfl
          case p1_23 =>
            go_simp
            try rfl
          with_reducible refine wpStill_none (a' := ?a1_24) ?w1_24 ?p1_24 ?_
          case w1_24 => kernel_rfl
          case p1_24 =>
            go_simp
            try rfl
          with_reducible refine wpStill_none (a' := ?a1_25) ?w1_25 ?p1_25 ?_
          case w1_25 => kernel_rfl
          case p1_25 =>
            go_simp
            try rfl
          with_reducible refine wpStill_none (a' := ?a1_26) ?w1_26 ?p1_26 ?_
          case w1_26 => kernel_rfl
          case p1_26 =>
            go_simp
            try rfl
          with_reducible refine wpStill_none (a' := ?a1_27) ?w1_27 ?p1_27 ?_
          case w1_27 => kernel_rfl
          case p1_27 =>
            go_simp
            try rfl
          with_reducible refine wpStill_none (a' := ?a1_28) ?w1_28 ?p1_28 ?_
          case w1_28 => kernel_rfl
          case p1_28 =>
            go_simp
            try rfl
          with_reducible refine wpStill_none (a' := ?a1_29) ?w1_29 ?p1_29 ?_
          case w1_29 => kernel_rfl
          case p1_29 =>
            go_simp
            try rfl
          with_reducible refine wpStill_none (a' := ?a1_30) ?w1_30 ?p1_30 ?_
          case w1_30 => kernel_rfl
          case p1_30 =>
            go_simp
            try rfl
          with_reducible refine wpStill_none (a' := ?a1_31) ?w1_31 ?p1_31 ?_
          case w1_31 => kernel_rfl
          case p1_31 =>
            go_simp
            try rfl
          with_reducible refine wpStill_none (a' := ?a1_32) ?w1_32 ?p1_32 ?_
          case w1_32 => kernel_rfl
          case p1_32 =>
            go_simp
            try rfl
          with_reducible refine wpStill_none (a' := ?a1_33) ?w1_33 ?p1_33 ?_
          case w1_33 => kernel_rfl
          case p1_33 =>
            go_simp
            try rfl
          with_reducible refine wpStill_none (a' := ?a1_34) ?w1_34 ?p1_34 ?_
          case w1_34 => kernel_rfl
          case p1_34 =>
            go_simp
            try rfl
          with_reducible refine wpStill_none (a' := ?a1_35) ?w1_35 ?p1_35 ?_
          case w1_35 => kernel_rfl
          case p1_35 =>
            go_simp
            try rfl
          with_reducible refine wpStill_none (a' := ?a1_36) ?w1_36 ?p1_36 ?_
          case w1_36 => kernel_rfl
          case p1_36 =>
            go_simp
            try rfl
          with_reducible refine wpStill_none (a' := ?a1_37) ?w1_37 ?p1_37 ?_
          case w1_37 => kernel_rfl
          case p1_37 =>
            go_simp
            try rfl
          with_reducible refine wpStill_value (v := ?v1_38) (a' := ?a1_38) ?w1_38 ?x1_38 ?p1_38 ?_
          case w1_38 => kernel_rfl
          case x1_38 =>
            go_simp
            try rfl
          case p1_38 =>
            go_simp
            try rfl
          refine wpStill_nil ?_
          go_wp2_with fail
          go_meet
          refine ⟨?_, ?_⟩
          · simp [hck]
          · first | exact hB | exact Below.drew hB
        | true =>
          obtain ⟨z, hz⟩ : ∃ z, noB xb = z := ⟨_, rfl⟩
          rw [hz] at HCK
          unfold noB at hz
          cases z with
          | true =>
            have hck : ck = false := by rw [HCK.out]; rfl
            have zs := blk_lt Bls.out
            have xs0 := cellsAt Bls.out 0
            have xs1 := cellsAt Bls.out 1
            have xs2 := cellsAt Bls.out 2
            have fs := frozAt Bls.out
            simp at xs0 xs1 xs2
            have zc := blk_lt Blc.out
            have xc0 := cellsAt Blc.out 0
            have xc1 := cellsAt Blc.out 1
            have fc := frozAt Blc.out
            simp at xc0 xc1
            have hyu := yieldU
            refine wp_region_head2 (by kernel_rfl) (by kernel_rfl) (by kernel_rfl) (by kernel_rfl) (by kernel_rfl) rfl rfl ?_
            intro K1 hK1
            go_simp
            refine hK1 _ _ ?_
            intro K2 hK2
            go_simp
            go_at_call 44
            refine (HP.out _).mono ?_
            rintro e w2 ⟨rfl, hb2⟩
            have hB := (by first | exact hb2 | exact bUndrewC hb2 : Below W6.heap.size W6 w2)
            have X1 := heap_below Bls.out hB
            have X2 := heap_below Blc.out hB
            have zs2 := blk_lt X1
            have zc2 := blk_lt X2
            have ys0 := cellsAt X1 0
            have ys1 := cellsAt X1 1
            have ys2 := cellsAt X1 2
            have yc0 := cellsAt X2 0
            have yc1 := cellsAt X2 1
            simp at ys0 ys1 ys2 yc0 yc1
            refine hK2 _ _ ?_
            with_reducible refine wpStill_value (v := ?v2_17) (a' := ?a2_17) ?w2_17 ?x2_17 ?p2_17 ?_
            case w2_17 => kernel_rfl
            case x2_17 =>
              go_simp
              try rfl
            case p2_17 =>
              go_simp
              try rfl
            with_reducible refine wpStill_value (v := ?v2_18) (a' := ?a2_18) ?w2_18 ?x2_18 ?p2_18 ?_
            case w2_18 => kernel_rfl
            case x2_18 =>
              go_simp
              try rfl
            case p2_18 =>
              go_simp
              try rfl
            with_reducible refine wpStill_value (v := ?v2_19) (a' := ?a2_19) ?w2_19 ?x2_19 ?p2_19 ?_
            case w2_19 => kernel_rfl
            case x2_19 =>
              go_simp
              try rfl
            case p2_19 =>
              go_simp
              try rfl
            with_reducible refine wpStill_value (v := ?v2_20) (a' := ?a2_20) ?w2_20 ?x2_20 ?p2_20 ?_
            case w2_20 => kernel_rfl
            case x2_20 =>
              go_simp
              try rfl
            case p2_20 =>
              go_simp
              try rfl
            with_reducible refine wpStill_value (v := ?v2_21) (a' := ?a2_21) ?w2_21 ?x2_21 ?p2_21 ?_
            case w2_21 => kernel_rfl
            case x2_21 =>
              go_simp
              try rfl
            case p2_21 =>
              go_simp
              try rfl
            with_reducible refine wpStill_value (v := ?v2_22) (a' := ?a2_22) ?w2_22 ?x2_22 ?p2_22 ?_
            case w2_22 => kernel_rfl
            case x2_22 =>
              go_simp
              try rfl
            case p2_22 =>
              go_simp
              try rfl
            with_reducible refine wpStill_value (v := ?v2_23) (a' := ?a2_23) ?w2_23 ?x2_23 ?p2_23 ?_
            case w2_23 => kernel_rfl
            case x2_23 =>
              go_simp
              try rfl
            case p2_23 =>
              go_simp
              try rfl
            with_reducible refine wpStill_none (a' := ?a2_24) ?w2_24 ?p2_24 ?_
            case w2_24 => kernel_rfl
            case p2_24 =>
              go_simp
              try rfl
            with_reducible refine wpStill_none (a' := ?a2_25) ?w2_25 ?p2_25 ?_
            case w2_25 => kernel_rfl
            case p2_25 =>
              go_simp
              try rfl
            with_reducible refine wpStill_none (a' := ?a2_26) ?w2_26 ?p2_26 ?_
            case w2_26 => kernel_rfl
            case p2_26 =>
              go_simp
              try rfl
            with_reducible refine wpStill_none (a' := ?a2_27) ?w2_27 ?p2_27 ?_
            case w2_27 => kernel_rfl
            case p2_27 =>
              go_simp
              try rfl
            with_reducible refine wpStill_none (a' := ?a2_28) ?w2_28 ?p2_28 ?_
            case w2_28 => kernel_rfl
            case p2_28 =>
              go_simp
              try rfl
            with_reducible refine wpStill_none (a' := ?a2_29) ?w2_29 ?p2_29 ?_
            case w2_29 => kernel_rfl
            case p2_29 =>
              go_simp
              try rfl
            with_reducible refine wpStill_none (a' := ?a2_30) ?w2_30 ?p2_30 ?_
            case w2_30 => kernel_rfl
            case p2_30 =>
              go_simp
              try rfl
            with_reducible refine wpStill_none (a' := ?a2_31) ?w2_31 ?p2_31 ?_
            case w2_31 => kernel_rfl
            case p2_31 =>
              go_simp
              try rfl
            with_reducible refine wpStill_none (a' := ?a2_32) ?w2_32 ?p2_32 ?_
            case w2_32 => kernel_rfl
            case p2_32 =>
              go_simp
              try rfl
            with_reducible refine wpStill_none (a' := ?a2_33) ?w2_33 ?p2_33 ?_
            case w2_33 => kernel_rfl
            case p2_33 =>
              go_simp
              try rfl
            with_reducible refine wpStill_none (a' := ?a2_34) ?w2_34 ?p2_34 ?_
            case w2_34 => kernel_rfl
            case p2_34 =>
              go_simp
              try rfl
            with_reducible refine wpStill_none (a' := ?a2_35) ?w2_35 ?p2_35 ?_
            case w2_35 => kernel_rfl
            case p2_35 =>
              go_simp
              try rfl
            with_reducible refine wpStill_none (a' := ?a2_36) ?w2_36 ?p2_36 ?_
            case w2_36 => kernel_rfl
            case p2_36 =>
              go_simp
              try rfl
            with_reducible refine wpStill_none (a' := ?a2_37) ?w2_37 ?p2_37 ?_
            case w2_37 => kernel_rfl
            case p2_37 =>
              go_simp
              try rfl
            with_reducible refine wpStill_value (v := ?v2_38) (a' := ?a2_38) ?w2_38 ?x2_38 ?p2_38 ?_
            case w2_38 => kernel_rfl
            case x2_38 =>
              go_simp
              try rfl
            case p2_38 =>
              go_simp
              try rfl
            refine wpStill_nil ?_
            go_wp2_with fail
            go_meet
            refine ⟨?_, ?_⟩
            · simp [hck]
            · first | exact hB | exact Below.drew hB
          | false =>
            by_cases hk0 : k = 0
            · subst hk0
              have tk : decide (0 < ((0 : Nat) : Int)) = false := by simp
              have hck : ck = true := by rw [HCK.out]; rfl
              have zs := blk_lt Bls.out
              have xs0 := cellsAt Bls.out 0
              have xs1 := cellsAt Bls.out 1
              have xs2 := cellsAt Bls.out 2
              have fs := frozAt Bls.out
              simp at xs0 xs1 xs2
              have zc := blk_lt Blc.out
              have xc0 := cellsAt Blc.out 0
              have xc1 := cellsAt Blc.out 1
              have fc := frozAt Blc.out
              simp at xc0 xc1
              have hyu := yieldU
              refine wp_region_head2 (by kernel_rfl) (by kernel_rfl) (by kernel_rfl) (by kernel_rfl) (by kernel_rfl) rfl rfl ?_
              intro K1 hK1
              go_simp
              refine hK1 _ _ ?_
              intro K2 hK2
              go_simp
              go_at_call 44
              refine (HP.out _).mono ?_
              rintro e w2 ⟨rfl, hb2⟩
              have hB := (by first | exact hb2 | exact bUndrewC hb2 : Below W6.heap.size W6 w2)
              have X1 := heap_below Bls.out hB
              have X2 := heap_below Blc.out hB
              have zs2 := blk_lt X1
              have zc2 := blk_lt X2
              have ys0 := cellsAt X1 0
              have ys1 := cellsAt X1 1
              have ys2 := cellsAt X1 2
              have yc0 := cellsAt X2 0
              have yc1 := cellsAt X2 1
              simp at ys0 ys1 ys2 yc0 yc1
              refine hK2 _ _ ?_
              with_reducible refine wpStill_value (v := ?v3_17) (a' := ?a3_17) ?w3_17 ?x3_17 ?p3_17 ?_
              case w3_17 => kernel_rfl
              case x3_17 =>
                go_simp
                try rfl
              case p3_17 =>
                go_simp
                try rfl
              with_reducible refine wpStill_value (v := ?v3_18) (a' := ?a3_18) ?w3_18 ?x3_18 ?p3_18 ?_
              case w3_18 => kernel_rfl
              case x3_18 =>
                go_simp
                try rfl
              case p3_18 =>
                go_simp
                try rfl
              with_reducible refine wpStill_value (v := ?v3_19) (a' := ?a3_19) ?w3_19 ?x3_19 ?p3_19 ?_
              case w3_19 => kernel_rfl
              case x3_19 =>
                go_simp
                try rfl
              case p3_19 =>
                go_simp
                try rfl
              with_reducible refine wpStill_value (v := ?v3_20) (a' := ?a3_20) ?w3_20 ?x3_20 ?p3_20 ?_
              case w3_20 => kernel_rfl
              case x3_20 =>
                go_simp
                try rfl
              case p3_20 =>
                go_simp
                try rfl
              with_reducible refine wpStill_value (v := ?v3_21) (a' := ?a3_21) ?w3_21 ?x3_21 ?p3_21 ?_
              case w3_21 => kernel_rfl
              case x3_21 =>
                go_simp
                try rfl
              case p3_21 =>
                go_simp
                try rfl
              with_reducible refine wpStill_value (v := ?v3_22) (a' := ?a3_22) ?w3_22 ?x3_22 ?p3_22 ?_
              case w3_22 => kernel_rfl
              case x3_22 =>
                go_simp
                try rfl
              case p3_22 =>
                go_simp
                try rfl
              with_reducible refine wpStill_value (v := ?v3_23) (a' := ?a3_23) ?w3_23 ?x3_23 ?p3_23 ?_
              case w3_23 => kernel_rfl
              case x3_23 =>
                go_simp
                try rfl
              case p3_23 =>
                go_simp
                try rfl
              with_reducible refine wpStill_value (v := ?v3_24) (a' := ?a3_24) ?w3_24 ?x3_24 ?p3_24 ?_
              case w3_24 => kernel_rfl
              case x3_24 =>
                go_simp
                try rfl
              case p3_24 =>
                go_simp
                try rfl
              with_reducible refine wpStill_value (v := ?v3_25) (a' := ?a3_25) ?w3_25 ?x3_25 ?p3_25 ?_
              case w3_25 => kernel_rfl
              case x3_25 =>
                go_simp
                try rfl
              case p3_25 =>
                go_simp
                try rfl
              with_reducible refine wpStill_value (v := ?v3_26) (a' := ?a3_26) ?w3_26 ?x3_26 ?p3_26 ?_
              case w3_26 => kernel_rfl
              case x3_26 =>
                go_simp
                try rfl
              case p3_26 =>
                go_simp
                try rfl
              with_reducible refine wpStill_none (a' := ?a3_27) ?w3_27 ?p3_27 ?_
              case w3_27 => kernel_rfl
              case p3_27 =>
                go_simp
                try rfl
              with_reducible refine wpStill_none (a' := ?a3_28) ?w3_28 ?p3_28 ?_
              case w3_28 => kernel_rfl
              case p3_28 =>
                go_simp
                try rfl
              with_reducible refine wpStill_none (a' := ?a3_29) ?w3_29 ?p3_29 ?_
              case w3_29 => kernel_rfl
              case p3_29 =>
                go_simp
                try rfl
              with_reducible refine wpStill_none (a' := ?a3_30) ?w3_30 ?p3_30 ?_
              case w3_30 => kernel_rfl
              case p3_30 =>
                go_simp
                try rfl
              with_reducible refine wpStill_none (a' := ?a3_31) ?w3_31 ?p3_31 ?_
              case w3_31 => kernel_rfl
              case p3_31 =>
                go_simp
                try rfl
              with_reducible refine wpStill_none (a' := ?a3_32) ?w3_32 ?p3_32 ?_
              case w3_32 => kernel_rfl
              case p3_32 =>
                go_simp
                try rfl
              with_reducible refine wpStill_none (a' := ?a3_33) ?w3_33 ?p3_33 ?_
              case w3_33 => kernel_rfl
              case p3_33 =>
                go_simp
                try rfl
              with_reducible refine wpStill_none (a' := ?a3_34) ?w3_34 ?p3_34 ?_
              case w3_34 => kernel_rfl
              case p3_34 =>
                go_simp
                try rfl
              with_reducible refine wpStill_none (a' := ?a3_35) ?w3_35 ?p3_35 ?_
              case w3_35 => kernel_rfl
              case p3_35 =>
                go_simp
                try rfl
              with_reducible refine wpStill_none (a' := ?a3_36) ?w3_36 ?p3_36 ?_
              case w3_36 => kernel_rfl
              case p3_36 =>
                go_simp
                try rfl
              with_reducible refine wpStill_value (v := ?v3_37) (a' := ?a3_37) ?w3_37 ?x3_37 ?p3_37 ?_
              case w3_37 => kernel_rfl
              case x3_37 =>
                go_simp
                try rfl
              case p3_37 =>
                go_simp
                try rfl
              with_reducible refine wpStill_value (v := ?v3_38) (a' := ?a3_38) ?w3_38 ?x3_38 ?p3_38 ?_
              case w3_38 => kernel_rfl
              case x3_38 =>
                go_simp
                try rfl
              case p3_38 =>
                go_simp
                try rfl
              refine wpStill_nil ?_
              go_wp2_with fail
              go_meet
              refine ⟨?_, ?_⟩
              · simp [hck]
              · first | exact hB | exact Below.drew hB
            · have tk : decide (0 < (k : Int)) = true := by simp; omega
              have tkn : decide (0 < k) = true := by simp; omega
              have hk1 : (1 : Int) ≤ (k : Int) := by omega
              have hk1n : 0 < k := by omega
              obtain ⟨y, hy⟩ : ∃ y, l[k - 1]? = some y := ⟨_, List.getElem?_eq_getElem (by rw [Hm.out]; omega)⟩
              have hyb := at_get hy
              obtain ⟨b2, o2, c4, e', -, hb2', hX⟩ := R1.out.at_ hy
              injection e' with e1 e2 e3
              clear e2
              injection e1 with e1
              injection e1 with e1 e1b
              subst e1 e1b e3
              have kp := hX 0 _ rfl
              clear hX hy
              rw [hyb, decide_eq_false hk0, Bool.false_or, Bool.not_false, Bool.true_and, Bool.true_and] at HCK
              obtain ⟨yn, yb⟩ := y
              simp only [Nat.add_zero] at kp HCK
              clear hyb
              have hkm : ((k : Int) - 1).toNat = k - 1 := by omega
              have hkm2 : (0 : Int) ≤ (k : Int) - 1 := by omega
              have hkm3 : (k : Int) - 1 < (m : Int) := by omega
              have hw1 : IntKind.i64.wrap ((k : Int) - 1) = (k : Int) - 1 := by rw [IntKind.wrap_i64]; omega
              have HPN := Lib.hid (fun (W' : World) (hB : Below W6.heap.size W6 W') => (hB.cell (p := ⟨b1, o1 + (k - 1) * 2, none⟩) hb2').trans kp)
              obtain ⟨q, hq⟩ : ∃ q, ltS yn xn = q := ⟨_, rfl⟩
              rw [hq] at HCK
              cases q with
              | true =>
                have hA := ltS_asym hq
                have hE := eqB_no.2 (fun e => ltS_ne hq e.symm)
                unfold ltS at hA
                unfold eqB at hE
                have hck : ck = true := HCK.out
                clear hq
                have zs := blk_lt Bls.out
                have xs0 := cellsAt Bls.out 0
                have xs1 := cellsAt Bls.out 1
                have xs2 := cellsAt Bls.out 2
                have fs := frozAt Bls.out
                simp at xs0 xs1 xs2
                have zc := blk_lt Blc.out
                have xc0 := cellsAt Blc.out 0
                have xc1 := cellsAt Blc.out 1
                have fc := frozAt Blc.out
                simp at xc0 xc1
                have hyu := yieldU
                refine wp_region_head2 (by kernel_rfl) (by kernel_rfl) (by kernel_rfl) (by kernel_rfl) (by kernel_rfl) rfl rfl ?_
                intro K1 hK1
                go_simp
                refine hK1 _ _ ?_
                intro K2 hK2
                go_simp
                go_at_call 44
                refine (HP.out _).mono ?_
                rintro e w2 ⟨rfl, hb2⟩
                have hB := (by first | exact hb2 | exact bUndrewC hb2 : Below W6.heap.size W6 w2)
                have X1 := heap_below Bls.out hB
                have X2 := heap_below Blc.out hB
                have zs2 := blk_lt X1
                have zc2 := blk_lt X2
                have ys0 := cellsAt X1 0
                have ys1 := cellsAt X1 1
                have ys2 := cellsAt X1 2
                have yc0 := cellsAt X2 0
                have yc1 := cellsAt X2 1
                simp at ys0 ys1 ys2 yc0 yc1
                have yp := HPN.out w2 hB
                refine hK2 _ _ ?_
                with_reducible refine wpStill_value (v := ?v4_17) (a' := ?a4_17) ?w4_17 ?x4_17 ?p4_17 ?_
                case w4_17 => kernel_rfl
                case x4_17 =>
                  go_simp
                  try rfl
                case p4_17 =>
                  go_simp
                  try rfl
                with_reducible refine wpStill_value (v := ?v4_18) (a' := ?a4_18) ?w4_18 ?x4_18 ?p4_18 ?_
                case w4_18 => kernel_rfl
                case x4_18 =>
                  go_simp
                  try rfl
                case p4_18 =>
                  go_simp
                  try rfl
                with_reducible refine wpStill_value (v := ?v4_19) (a' := ?a4_19) ?w4_19 ?x4_19 ?p4_19 ?_
                case w4_19 => kernel_rfl
                case x4_19 =>
                  go_simp
                  try rfl
                case p4_19 =>
                  go_simp
                  try rfl
                with_reducible refine wpStill_value (v := ?v4_20) (a' := ?a4_20) ?w4_20 ?x4_20 ?p4_20 ?_
                case w4_20 => kernel_rfl
                case x4_20 =>
                  go_simp
                  try rfl
                case p4_20 =>
                  go_simp
                  try rfl
                with_reducible refine wpStill_value (v := ?v4_21) (a' := ?a4_21) ?w4_21 ?x4_21 ?p4_21 ?_
                case w4_21 => kernel_rfl
                case x4_21 =>
                  go_simp
                  try rfl
                case p4_21 =>
                  go_simp
                  try rfl
                with_reducible refine wpStill_value (v := ?v4_22) (a' := ?a4_22) ?w4_22 ?x4_22 ?p4_22 ?_
                case w4_22 => kernel_rfl
                case x4_22 =>
                  go_simp
                  try rfl
                case p4_22 =>
                  go_simp
                  try rfl
                with_reducible refine wpStill_value (v := ?v4_23) (a' := ?a4_23) ?w4_23 ?x4_23 ?p4_23 ?_
                case w4_23 => kernel_rfl
                case x4_23 =>
                  go_simp
                  try rfl
                case p4_23 =>
                  go_simp
                  try rfl
                with_reducible refine wpStill_value (v := ?v4_24) (a' := ?a4_24) ?w4_24 ?x4_24 ?p4_24 ?_
                case w4_24 => kernel_rfl
                case x4_24 =>
                  go_simp
                  try rfl
                case p4_24 =>
                  go_simp
                  try rfl
                with_reducible refine wpStill_value (v := ?v4_25) (a' := ?a4_25) ?w4_25 ?x4_25 ?p4_25 ?_
                case w4_25 => kernel_rfl
                case x4_25 =>
                  go_simp
                  try rfl
                case p4_25 =>
                  go_simp
                  try rfl
                with_reducible refine wpStill_value (v := ?v4_26) (a' := ?a4_26) ?w4_26 ?x4_26 ?p4_26 ?_
                case w4_26 => kernel_rfl
                case x4_26 =>
                  go_simp
                  try rfl
                case p4_26 =>
                  go_simp
                  try rfl
                with_reducible refine wpStill_value (v := ?v4_27) (a' := ?a4_27) ?w4_27 ?x4_27 ?p4_27 ?_
                case w4_27 => kernel_rfl
                case x4_27 =>
                  go_simp
                  try rfl
                case p4_27 =>
                  go_simp
                  try rfl
                with_reducible refine wpStill_value (v := ?v4_28) (a' := ?a4_28) ?w4_28 ?x4_28 ?p4_28 ?_
                case w4_28 => kernel_rfl
                case x4_28 =>
                  go_simp
                  try rfl
                case p4_28 =>
                  go_simp
                  try rfl
                with_reducible refine wpStill_value (v := ?v4_29) (a' := ?a4_29) ?w4_29 ?x4_29 ?p4_29 ?_
                case w4_29 => kernel_rfl
                case x4_29 =>
                  go_simp
                  try rfl
                case p4_29 =>
                  go_simp
                  try rfl
                with_reducible refine wpStill_value (v := ?v4_30) (a' := ?a4_30) ?w4_30 ?x4_30 ?p4_30 ?_
                case w4_30 => kernel_rfl
                case x4_30 =>
                  go_simp
                  try rfl
                case p4_30 =>
                  go_simp
                  try rfl
                with_reducible refine wpStill_value (v := ?v4_31) (a' := ?a4_31) ?w4_31 ?x4_31 ?p4_31 ?_
                case w4_31 => kernel_rfl
                case x4_31 =>
                  go_simp
                  try rfl
                case p4_31 =>
                  go_simp
                  try rfl
                with_reducible refine wpStill_value (v := ?v4_32) (a' := ?a4_32) ?w4_32 ?x4_32 ?p4_32 ?_
                case w4_32 => kernel_rfl
                case x4_32 =>
                  go_simp
                  try rfl
                case p4_32 =>
                  go_simp
                  try rfl
                with_reducible refine wpStill_value (v := ?v4_33) (a' := ?a4_33) ?w4_33 ?x4_33 ?p4_33 ?_
                case w4_33 => kernel_rfl
                case x4_33 =>
                  go_simp
                  try rfl
                case p4_33 =>
                  go_simp
                  try rfl
                with_reducible refine wpStill_value (v := ?v4_34) (a' := ?a4_34) ?w4_34 ?x4_34 ?p4_34 ?_
                case w4_34 => kernel_rfl
                case x4_34 =>
                  go_simp
                  try rfl
                case p4_34 =>
                  go_simp
                  try rfl
                with_reducible refine wpStill_value (v := ?v4_35) (a' := ?a4_35) ?w4_35 ?x4_35 ?p4_35 ?_
                case w4_35 => kernel_rfl
                case x4_35 =>
                  go_simp
                  try rfl
                case p4_35 =>
                  go_simp
                  try rfl
                with_reducible refine wpStill_value (v := ?v4_36) (a' := ?a4_36) ?w4_36 ?x4_36 ?p4_36 ?_
                case w4_36 => kernel_rfl
                case x4_36 =>
                  go_simp
                  try rfl
                case p4_36 =>
                  go_simp
                  try rfl
                with_reducible refine wpStill_value (v := ?v4_37) (a' := ?a4_37) ?w4_37 ?x4_37 ?p4_37 ?_
                case w4_37 => kernel_rfl
                case x4_37 =>
                  go_simp
                  try rfl
                case p4_37 =>
                  go_simp
                  try rfl
                with_reducible refine wpStill_value (v := ?v4_38) (a' := ?a4_38) ?w4_38 ?x4_38 ?p4_38 ?_
                case w4_38 => kernel_rfl
                case x4_38 =>
                  go_simp
                  try rfl
                case p4_38 =>
                  go_simp
                  try rfl
                refine wpStill_nil ?_
                go_wp2_with fail
                go_meet
                refine ⟨?_, ?_⟩
                · simp [hck]
                · first | exact hB | exact Below.drew hB
              | false =>
                have hck : ck = false := HCK.out
                obtain ⟨q2, hA⟩ : ∃ q, ltS xn yn = q := ⟨_, rfl⟩
                cases q2 with
                | true =>
                  unfold ltS at hA
                  clear hq
                  have zs := blk_lt Bls.out
                  have xs0 := cellsAt Bls.out 0
                  have xs1 := cellsAt Bls.out 1
                  have xs2 := cellsAt Bls.out 2
                  have fs := frozAt Bls.out
                  simp at xs0 xs1 xs2
                  have zc := blk_lt Blc.out
                  have xc0 := cellsAt Blc.out 0
                  have xc1 := cellsAt Blc.out 1
                  have fc := frozAt Blc.out
                  simp at xc0 xc1
                  have hyu := yieldU
                  refine wp_region_head2 (by kernel_rfl) (by kernel_rfl) (by kernel_rfl) (by kernel_rfl) (by kernel_rfl) rfl rfl ?_
                  intro K1 hK1
                  go_simp
                  refine hK1 _ _ ?_
                  intro K2 hK2
                  go_simp
                  go_at_call 44
                  refine (HP.out _).mono ?_
                  rintro e w2 ⟨rfl, hb2⟩
                  have hB := (by first | exact hb2 | exact bUndrewC hb2 : Below W6.heap.size W6 w2)
                  have X1 := heap_below Bls.out hB
                  have X2 := heap_below Blc.out hB
                  have zs2 := blk_lt X1
                  have zc2 := blk_lt X2
                  have ys0 := cellsAt X1 0
                  have ys1 := cellsAt X1 1
                  have ys2 := cellsAt X1 2
                  have yc0 := cellsAt X2 0
                  have yc1 := cellsAt X2 1
                  simp at ys0 ys1 ys2 yc0 yc1
                  have yp := HPN.out w2 hB
                  refine hK2 _ _ ?_
                  with_reducible refine wpStill_value (v := ?v5_17) (a' := ?a5_17) ?w5_17 ?x5_17 ?p5_17 ?_
                  case w5_17 => kernel_rfl
                  case x5_17 =>
                    go_simp
                    try rfl
                  case p5_17 =>
                    go_simp
                    try rfl
                  with_reducible refine wpStill_value (v := ?v5_18) (a' := ?a5_18) ?w5_18 ?x5_18 ?p5_18 ?_
                  case w5_18 => kernel_rfl
                  case x5_18 =>
                    go_simp
                    try rfl
                  case p5_18 =>
                    go_simp
                    try rfl
                  with_reducible refine wpStill_value (v := ?v5_19) (a' := ?a5_19) ?w5_19 ?x5_19 ?p5_19 ?_
                  case w5_19 => kernel_rfl
                  case x5_19 =>
                    go_simp
                    try rfl
                  case p5_19 =>
                    go_simp
                    try rfl
                  with_reducible refine wpStill_value (v := ?v5_20) (a' := ?a5_20) ?w5_20 ?x5_20 ?p5_20 ?_
                  case w5_20 => kernel_rfl
                  case x5_20 =>
                    go_simp
                    try rfl
                  case p5_20 =>
                    go_simp
                    try rfl
                  with_reducible refine wpStill_value (v := ?v5_21) (a' := ?a5_21) ?w5_21 ?x5_21 ?p5_21 ?_
                  case w5_21 => kernel_rfl
                  case x5_21 =>
                    go_simp
                    try rfl
                  case p5_21 =>
                    go_simp
                    try rfl
                  with_reducible refine wpStill_value (v := ?v5_22) (a' := ?a5_22) ?w5_22 ?x5_22 ?p5_22 ?_
                  case w5_22 => kernel_rfl
                  case x5_22 =>
                    go_simp
                    try rfl
                  case p5_22 =>
                    go_simp
                    try rfl
                  with_reducible refine wpStill_value (v := ?v5_23) (a' := ?a5_23) ?w5_23 ?x5_23 ?p5_23 ?_
                  case w5_23 => kernel_rfl
                  case x5_23 =>
                    go_simp
                    try rfl
                  case p5_23 =>
                    go_simp
                    try rfl
                  with_reducible refine wpStill_value (v := ?v5_24) (a' := ?a5_24) ?w5_24 ?x5_24 ?p5_24 ?_
                  case w5_24 => kernel_rfl
                  case x5_24 =>
                    go_simp
                    try rfl
                  case p5_24 =>
                    go_simp
                    try rfl
                  with_reducible refine wpStill_value (v := ?v5_25) (a' := ?a5_25) ?w5_25 ?x5_25 ?p5_25 ?_
                  case w5_25 => kernel_rfl
                  case x5_25 =>
                    go_simp
                    try rfl
                  case p5_25 =>
                    go_simp
                    try rfl
                  with_reducible refine wpStill_value (v := ?v5_26) (a' := ?a5_26) ?w5_26 ?x5_26 ?p5_26 ?_
                  case w5_26 => kernel_rfl
                  case x5_26 =>
                    go_simp
                    try rfl
                  case p5_26 =>
                    go_simp
                    try rfl
                  with_reducible refine wpStill_value (v := ?v5_27) (a' := ?a5_27) ?w5_27 ?x5_27 ?p5_27 ?_
                  case w5_27 => kernel_rfl
                  case x5_27 =>
                    go_simp
                    try rfl
                  case p5_27 =>
                    go_simp
                    try rfl
                  with_reducible refine wpStill_value (v := ?v5_28) (a' := ?a5_28) ?w5_28 ?x5_28 ?p5_28 ?_
                  case w5_28 => kernel_rfl
                  case x5_28 =>
                    go_simp
                    try rfl
                  case p5_28 =>
                    go_simp
                    try rfl
                  with_reducible refine wpStill_value (v := ?v5_29) (a' := ?a5_29) ?w5_29 ?x5_29 ?p5_29 ?_
                  case w5_29 => kernel_rfl
                  case x5_29 =>
                    go_simp
                    try rfl
                  case p5_29 =>
                    go_simp
                    try rfl
                  with_reducible refine wpStill_value (v := ?v5_30) (a' := ?a5_30) ?w5_30 ?x5_30 ?p5_30 ?_
                  case w5_30 => kernel_rfl
                  case x5_30 =>
                    go_simp
                    try rfl
                  case p5_30 =>
                    go_simp
                    try rfl
                  with_reducible refine wpStill_value (v := ?v5_31) (a' := ?a5_31) ?w5_31 ?x5_31 ?p5_31 ?_
                  case w5_31 => kernel_rfl
                  case x5_31 =>
                    go_simp
                    try rfl
                  case p5_31 =>
                    go_simp
                    try rfl
                  with_reducible refine wpStill_value (v := ?v5_32) (a' := ?a5_32) ?w5_32 ?x5_32 ?p5_32 ?_
                  case w5_32 => kernel_rfl
                  case x5_32 =>
                    go_simp
                    try rfl
                  case p5_32 =>
                    go_simp
                    try rfl
                  with_reducible refine wpStill_value (v := ?v5_33) (a' := ?a5_33) ?w5_33 ?x5_33 ?p5_33 ?_
                  case w5_33 => kernel_rfl
                  case x5_33 =>
                    go_simp
                    try rfl
                  case p5_33 =>
                    go_simp
                    try rfl
                  with_reducible refine wpStill_value (v := ?v5_34) (a' := ?a5_34) ?w5_34 ?x5_34 ?p5_34 ?_
                  case w5_34 => kernel_rfl
                  case x5_34 =>
                    go_simp
                    try rfl
                  case p5_34 =>
                    go_simp
                    try rfl
                  with_reducible refine wpStill_value (v := ?v5_35) (a' := ?a5_35) ?w5_35 ?x5_35 ?p5_35 ?_
                  case w5_35 => kernel_rfl
                  case x5_35 =>
                    go_simp
                    try rfl
                  case p5_35 =>
                    go_simp
                    try rfl
                  with_reducible refine wpStill_value (v := ?v5_36) (a' := ?a5_36) ?w5_36 ?x5_36 ?p5_36 ?_
                  case w5_36 => kernel_rfl
                  case x5_36 =>
                    go_simp
                    try rfl
                  case p5_36 =>
                    go_simp
                    try rfl
                  with_reducible refine wpStill_value (v := ?v5_37) (a' := ?a5_37) ?w5_37 ?x5_37 ?p5_37 ?_
                  case w5_37 => kernel_rfl
                  case x5_37 =>
                    go_simp
                    try rfl
                  case p5_37 =>
                    go_simp
                    try rfl
                  with_reducible refine wpStill_value (v := ?v5_38) (a' := ?a5_38) ?w5_38 ?x5_38 ?p5_38 ?_
                  case w5_38 => kernel_rfl
                  case x5_38 =>
                    go_simp
                    try rfl
                  case p5_38 =>
                    go_simp
                    try rfl
                  refine wpStill_nil ?_
                  go_wp2_with fail
                  go_meet
                  refine ⟨?_, ?_⟩
                  · simp [hck]
                  · first | exact hB | exact Below.drew hB
                | false =>
                  have hE := eqB_iff.2 (ltS_tot hA hq)
                  unfold ltS at hA
                  unfold eqB at hE
                  clear hq
                  have zs := blk_lt Bls.out
                  have xs0 := cellsAt Bls.out 0
                  have xs1 := cellsAt Bls.out 1
                  have xs2 := cellsAt Bls.out 2
                  have fs := frozAt Bls.out
                  simp at xs0 xs1 xs2
                  have zc := blk_lt Blc.out
                  have xc0 := cellsAt Blc.out 0
                  have xc1 := cellsAt Blc.out 1
                  have fc := frozAt Blc.out
                  simp at xc0 xc1
                  have hyu := yieldU
                  refine wp_region_head2 (by kernel_rfl) (by kernel_rfl) (by kernel_rfl) (by kernel_rfl) (by kernel_rfl) rfl rfl ?_
                  intro K1 hK1
                  go_simp
                  refine hK1 _ _ ?_
                  intro K2 hK2
                  go_simp
                  go_at_call 44
                  refine (HP.out _).mono ?_
                  rintro e w2 ⟨rfl, hb2⟩
                  have hB := (by first | exact hb2 | exact bUndrewC hb2 : Below W6.heap.size W6 w2)
                  have X1 := heap_below Bls.out hB
                  have X2 := heap_below Blc.out hB
                  have zs2 := blk_lt X1
                  have zc2 := blk_lt X2
                  have ys0 := cellsAt X1 0
                  have ys1 := cellsAt X1 1
                  have ys2 := cellsAt X1 2
                  have yc0 := cellsAt X2 0
                  have yc1 := cellsAt X2 1
                  simp at ys0 ys1 ys2 yc0 yc1
                  have yp := HPN.out w2 hB
                  refine hK2 _ _ ?_
                  with_reducible refine wpStill_value (v := ?v6_17) (a' := ?a6_17) ?w6_17 ?x6_17 ?p6_17 ?_
                  case w6_17 => kernel_rfl
                  case x6_17 =>
                    go_simp
                    try rfl
                  case p6_17 =>
                    go_simp
                    try rfl
                  with_reducible refine wpStill_value (v := ?v6_18) (a' := ?a6_18) ?w6_18 ?x6_18 ?p6_18 ?_
                  case w6_18 => kernel_rfl
                  case x6_18 =>
                    go_simp
                    try rfl
                  case p6_18 =>
                    go_simp
                    try rfl
                  with_reducible refine wpStill_value (v := ?v6_19) (a' := ?a6_19) ?w6_19 ?x6_19 ?p6_19 ?_
                  case w6_19 => kernel_rfl
                  case x6_19 =>
                    go_simp
                    try rfl
                  case p6_19 =>
                    go_simp
                    try rfl
                  with_reducible refine wpStill_value (v := ?v6_20) (a' := ?a6_20) ?w6_20 ?x6_20 ?p6_20 ?_
                  case w6_20 => kernel_rfl
                  case x6_20 =>
                    go_simp
                    try rfl
                  case p6_20 =>
                    go_simp
                    try rfl
                  with_reducible refine wpStill_value (v := ?v6_21) (a' := ?a6_21) ?w6_21 ?x6_21 ?p6_21 ?_
                  case w6_21 => kernel_rfl
                  case x6_21 =>
                    go_simp
                    try rfl
                  case p6_21 =>
                    go_simp
                    try rfl
                  with_reducible refine wpStill_value (v := ?v6_22) (a' := ?a6_22) ?w6_22 ?x6_22 ?p6_22 ?_
                  case w6_22 => kernel_rfl
                  case x6_22 =>
                    go_simp
                    try rfl
                  case p6_22 =>
                    go_simp
                    try rfl
                  with_reducible refine wpStill_value (v := ?v6_23) (a' := ?a6_23) ?w6_23 ?x6_23 ?p6_23 ?_
                  case w6_23 => kernel_rfl
                  case x6_23 =>
                    go_simp
                    try rfl
                  case p6_23 =>
                    go_simp
                    try rfl
                  with_reducible refine wpStill_value (v := ?v6_24) (a' := ?a6_24) ?w6_24 ?x6_24 ?p6_24 ?_
                  case w6_24 => kernel_rfl
                  case x6_24 =>
                    go_simp
                    try rfl
                  case p6_24 =>
                    go_simp
                    try rfl
                  with_reducible refine wpStill_value (v := ?v6_25) (a' := ?a6_25) ?w6_25 ?x6_25 ?p6_25 ?_
                  case w6_25 => kernel_rfl
                  case x6_25 =>
                    go_simp
                    try rfl
                  case p6_25 =>
                    go_simp
                    try rfl
                  with_reducible refine wpStill_value (v := ?v6_26) (a' := ?a6_26) ?w6_26 ?x6_26 ?p6_26 ?_
                  case w6_26 => kernel_rfl
                  case x6_26 =>
                    go_simp
                    try rfl
                  case p6_26 =>
                    go_simp
                    try rfl
                  with_reducible refine wpStill_value (v := ?v6_27) (a' := ?a6_27) ?w6_27 ?x6_27 ?p6_27 ?_
                  case w6_27 => kernel_rfl
                  case x6_27 =>
                    go_simp
                    try rfl
                  case p6_27 =>
                    go_simp
                    try rfl
                  with_reducible refine wpStill_value (v := ?v6_28) (a' := ?a6_28) ?w6_28 ?x6_28 ?p6_28 ?_
                  case w6_28 => kernel_rfl
                  case x6_28 =>
                    go_simp
                    try rfl
                  case p6_28 =>
                    go_simp
                    try rfl
                  with_reducible refine wpStill_value (v := ?v6_29) (a' := ?a6_29) ?w6_29 ?x6_29 ?p6_29 ?_
                  case w6_29 => kernel_rfl
                  case x6_29 =>
                    go_simp
                    try rfl
                  case p6_29 =>
                    go_simp
                    try rfl
                  with_reducible refine wpStill_value (v := ?v6_30) (a' := ?a6_30) ?w6_30 ?x6_30 ?p6_30 ?_
                  case w6_30 => kernel_rfl
                  case x6_30 =>
                    go_simp
                    try rfl
                  case p6_30 =>
                    go_simp
                    try rfl
                  with_reducible refine wpStill_value (v := ?v6_31) (a' := ?a6_31) ?w6_31 ?x6_31 ?p6_31 ?_
                  case w6_31 => kernel_rfl
                  case x6_31 =>
                    go_simp
                    try rfl
                  case p6_31 =>
                    go_simp
                    try rfl
                  with_reducible refine wpStill_value (v := ?v6_32) (a' := ?a6_32) ?w6_32 ?x6_32 ?p6_32 ?_
                  case w6_32 => kernel_rfl
                  case x6_32 =>
                    go_simp
                    try rfl
                  case p6_32 =>
                    go_simp
                    try rfl
                  with_reducible refine wpStill_value (v := ?v6_33) (a' := ?a6_33) ?w6_33 ?x6_33 ?p6_33 ?_
                  case w6_33 => kernel_rfl
                  case x6_33 =>
                    go_simp
                    try rfl
                  case p6_33 =>
                    go_simp
                    try rfl
                  with_reducible refine wpStill_value (v := ?v6_34) (a' := ?a6_34) ?w6_34 ?x6_34 ?p6_34 ?_
                  case w6_34 => kernel_rfl
                  case x6_34 =>
                    go_simp
                    try rfl
                  case p6_34 =>
                    go_simp
                    try rfl
                  with_reducible refine wpStill_value (v := ?v6_35) (a' := ?a6_35) ?w6_35 ?x6_35 ?p6_35 ?_
                  case w6_35 => kernel_rfl
                  case x6_35 =>
                    go_simp
                    try rfl
                  case p6_35 =>
                    go_simp
                    try rfl
                  with_reducible refine wpStill_value (v := ?v6_36) (a' := ?a6_36) ?w6_36 ?x6_36 ?p6_36 ?_
                  case w6_36 => kernel_rfl
                  case x6_36 =>
                    go_simp
                    try rfl
                  case p6_36 =>
                    go_simp
                    try rfl
                  with_reducible refine wpStill_value (v := ?v6_37) (a' := ?a6_37) ?w6_37 ?x6_37 ?p6_37 ?_
                  case w6_37 => kernel_rfl
                  case x6_37 =>
                    go_simp
                    try rfl
                  case p6_37 =>
                    go_simp
                    try rfl
                  with_reducible refine wpStill_value (v := ?v6_38) (a' := ?a6_38) ?w6_38 ?x6_38 ?p6_38 ?_
                  case w6_38 => kernel_rfl
                  case x6_38 =>
                    go_simp
                    try rfl
                  case p6_38 =>
                    go_simp
                    try rfl
                  refine wpStill_nil ?_
                  go_wp2_with fail
                  go_meet
                  refine ⟨?_, ?_⟩
                  · simp [hck]
                  · first | exact hB | exact Below.drew hB
      case rest =>
        obtain ⟨rfl, hbc⟩ := hcut
        have BQ := Lib.hid (bThen (bThen BJ.out HBC0.out) hbc)
        have Z := Lib.hid (heap_below Bls.out hbc)
        clear Bls
        have Bls := Z
        clear Z
        have Z := Lib.hid (heap_below Blc.out hbc)
        clear Blc
        have Blc := Z
        clear Z
        have Z := Lib.hid (Row.below R1.out hbc)
        clear R1
        have R1 := Z
        clear Z
        have Z := Lib.hid (Row.below R2.out hbc)
        clear R2
        have R2 := Z
        clear Z
        have BB10 := Lib.hid (bThen BB9.out hbc)
        clear hbc
        cases ck with
        | false =>
          have hbb := HBB.out
          rw [all_range_not _ hlt HCQ.out, Bool.false_and] at hbb
          subst hbb
          go_wp2_with fail
          go_ret
          exact ⟨rfl, BB10.out⟩
        | true =>
          go_wp2_with fail
          go_roundw
          case rel => exact ⟨k + 1, by rw [Hm.out]; omega, by go_num, by rw [all_range_succ, HALL.out, HCQ.out]; rfl, BQ.out⟩
          case measure => simp [intOf]; omega
    · obtain rfl : k = m := by omega
      have HB2 := Lib.hid (show _ = _ from (by have hbb := HBB.out; rw [HALL.out, Bool.true_and] at hbb; exact hbb : (allC f && (decide (k ≤ 64) && decide (m2 ≤ 64))) = b))
      obtain ⟨w7, rfl⟩ : ∃ X, X = wr := ⟨_, rfl⟩
      have zs := blk_lt Bls.out
      have xs0 := cellsAt Bls.out 0
      have xs1 := cellsAt Bls.out 1
      have xs2 := cellsAt Bls.out 2
      have fs := frozAt Bls.out
      simp at xs0 xs1 xs2
      go_wp2_with fail
      clear zs fs xs0 xs1 xs2
      go_loopw [43] (fun i wr => RfRel f w7 i wr) (fun i _ => m2 - (intOf i).toNat)
      case atStart => exact ⟨0, Nat.zero_le _, rfl, rfl, Below.refl _ _⟩
      case round =>
        obtain ⟨j, hj, rfl, hall2, hbj2⟩ := hrel
        rw [Hm2.out] at hj
        have BJ2 := Lib.hid hbj2
        have HALL2 := Lib.hid hall2
        clear hall2
        have Z := Lib.hid (heap_below Bls.out hbj2)
        clear Bls
        have Bls := Z
        clear Z
        have Z := Lib.hid (Row.below R1.out hbj2)
        clear R1
        have R1 := Z
        clear Z
        have Z := Lib.hid (Row.below R2.out hbj2)
        clear R2
        have R2 := Z
        clear Z
        have BB6 := Lib.hid (bThen BB5.out hbj2)
        clear hbj2
        by_cases hlt2 : j < m2
        · obtain ⟨x, hi⟩ : ∃ x, f[j]? = some x := ⟨_, List.getElem?_eq_getElem (by rw [Hm2.out]; exact hlt2)⟩
          have hxk : mayC f[j]! = mayC x := by rw [at_get hi]
          have hxo := HOK2.out x (List.mem_of_getElem? hi)
          obtain ⟨b3, o3, c5, e', hc', hb3, hX⟩ := R2.out.at_ hi
          injection e' with e1 e2 e3
          clear e2
          subst e1 e3
          have k0 := hX 0 _ rfl
          have k1 := hX 1 _ rfl
          clear hX hi
          simp only [Nat.add_zero] at k0 k1
          obtain ⟨bm, hbm⟩ : ∃ q, mayC x = q := ⟨_, rfl⟩
          have HP := Lib.hid (fun W => rmay_any x W bm hbm hxo)
          rw [hbm] at hxk
          have HXK := Lib.hid hxk
          clear hbm hxo hxk
          obtain ⟨xn, xb⟩ := x
          simp only at k0 k1 HP
          go_wp2_with fail
          refine (HP.out _).mono ?_
          rintro e w9 ⟨rfl, hb9⟩
          have hbx := belA (Below.refl _ _) hb9
          have BX := Lib.hid hbx
          clear k0 k1 hb9
          have Z := Lib.hid (heap_below Bls.out hbx)
          clear Bls
          have Bls := Z
          clear Z
          have Z := Lib.hid (Row.below R1.out hbx)
          clear R1
          have R1 := Z
          clear Z
          have Z := Lib.hid (Row.below R2.out hbx)
          clear R2
          have R2 := Z
          clear Z
          have BB7 := Lib.hid (bThen BB6.out hbx)
          clear hbx
          cases bm with
          | false =>
            have hbb := HB2.out
            unfold allC at hbb
            rw [Hm2.out, all_range_not (fun i => mayC f[i]!) hlt2 HXK.out, Bool.false_and] at hbb
            subst hbb
            go_wp2_with fail
            go_ret
            exact ⟨rfl, BB7.out⟩
          | true =>
            go_wp2_with fail
            go_roundw
            case rel => exact ⟨j + 1, by rw [Hm2.out]; omega, by go_num, by rw [all_range_succ, HALL2.out, HXK.out]; rfl, bThen BJ2.out BX.out⟩
            case measure => simp [intOf]; omega
        · obtain rfl : j = m2 := by omega
          have HB3 := Lib.hid (show (decide (k ≤ 64) && decide (j ≤ 64)) = b from (by have hbb := HB2.out; unfold allC at hbb; rw [Hm2.out, HALL2.out, Bool.true_and] at hbb; exact hbb))
          have zs := blk_lt Bls.out
          have xs0 := cellsAt Bls.out 0
          have xs1 := cellsAt Bls.out 1
          have xs2 := cellsAt Bls.out 2
          have fs := frozAt Bls.out
          simp at xs0 xs1 xs2
          by_cases h1 : k ≤ 64
          · have hbb := HB3.out
            rw [decide_eq_true h1, Bool.true_and] at hbb
            have hq2 : decide ((j : Int) ≤ 64) = b := by rw [← hbb, Bool.eq_iff_iff, decide_eq_true_eq, decide_eq_true_eq]; omega
            have HQ := Lib.hid hq2
            clear hbb hq2
            go_wp2_with fail
            go_ret
            exact ⟨by rw [← HQ.out]; rfl, BB6.out⟩
          · have hbb := HB3.out
            rw [decide_eq_false h1, Bool.false_and] at hbb
            subst hbb
            go_wp2_with fail
            go_ret
            exact ⟨rfl, BB6.out⟩
end Go.Proofs.Ytlboehpgpbchhaa
