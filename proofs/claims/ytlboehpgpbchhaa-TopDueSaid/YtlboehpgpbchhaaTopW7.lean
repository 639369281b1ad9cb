/-
  WALKS of the top laws: may panes be?
-/
import Derived.Test.YtlboehpgpbchhaaTopW6
import Derived.Test.YtlboehpgpbchhaaRegHead
import Derived.Deep.RegionHeld3
import Derived.Deep.CutRange
set_option linter.unusedVariables false
set_option linter.unusedSimpArgs false
namespace Go.Proofs.Ytlboehpgpbchhaa
open Go.RowKit

instance : Inhabited Pn := ⟨⟨0, 0, ⟨#[]⟩, 0, 0, 0⟩⟩
def pokAt (l : List Pn) (i : Nat) : Bool := pmB l[i]! && (decide (i = 0) || decide (cmpP l[i - 1]! l[i]! < 0))
/-- May panes be? -/
def prB (l : List Pn) : Bool := decide (l.length ≤ 2000) && (List.range l.length).all (pokAt l)
theorem pn_get {l : List Pn} {i : Nat} {p : Pn} (h : l[i]? = some p) : l[i]! = p := by rw [List.getElem!_eq_getElem?_getD, h]; rfl
theorem pall_succ (f : Nat → Bool) (k : Nat) : (List.range (k + 1)).all f = ((List.range k).all f && f k) := by rw [List.range_succ, List.all_append]; simp
theorem pall_not (f : Nat → Bool) {n k : Nat} (hk : k < n) (h : f k = false) : (List.range n).all f = false := by
  rw [List.all_eq_false]
  exact ⟨k, List.mem_range.2 hk, by simp [h]⟩
theorem yieldQ : (yielded.match_1 (fun _ => Option Bool) (some undef) (fun b => some b) (fun _ => none)) = none := rfl
theorem bUndrewQ {W w' : World} (h : Below W.drew.heap.size W.drew w') : Below W.heap.size W w' := ⟨h.os, h.tape, h.output, h.size, h.block⟩
def PrRel (l : List Pn) (w : World) (i : Value) (wr : World) : Prop := ∃ k : Nat, k ≤ l.length ∧ i = .int .i64 k ∧ (List.range k).all (pokAt l) = true ∧ Below w.heap.size w wr
theorem keep12 {W w' : World} {g b o : Nat} {a0 a1 a2 a3 a4 a5 b0 b1 b2 b3 b4 b5 : Value} (h : Below W.heap.size W w' ∧ w'.cell? ⟨g, 0, none⟩ = some a0 ∧ w'.cell? ⟨g, 1, none⟩ = some a1 ∧ w'.cell? ⟨g, 2, none⟩ = some a2 ∧ w'.cell? ⟨g, 3, none⟩ = some a3 ∧ w'.cell? ⟨g, 4, none⟩ = some a4 ∧ w'.cell? ⟨g, 5, none⟩ = some a5 ∧ w'.cell? ⟨b, o, none⟩ = some b0 ∧ w'.cell? ⟨b, o + 1, none⟩ = some b1 ∧ w'.cell? ⟨b, o + 2, none⟩ = some b2 ∧ w'.cell? ⟨b, o + 3, none⟩ = some b3 ∧ w'.cell? ⟨b, o + 4, none⟩ = some b4 ∧ w'.cell? ⟨b, o + 5, none⟩ = some b5) :
    Below W.heap.size W w'.drew ∧ w'.drew.cell? ⟨g, 0, none⟩ = some a0 ∧ w'.drew.cell? ⟨g, 1, none⟩ = some a1 ∧ w'.drew.cell? ⟨g, 2, none⟩ = some a2 ∧ w'.drew.cell? ⟨g, 3, none⟩ = some a3 ∧ w'.drew.cell? ⟨g, 4, none⟩ = some a4 ∧ w'.drew.cell? ⟨g, 5, none⟩ = some a5 ∧ w'.drew.cell? ⟨b, o, none⟩ = some b0 ∧ w'.drew.cell? ⟨b, o + 1, none⟩ = some b1 ∧ w'.drew.cell? ⟨b, o + 2, none⟩ = some b2 ∧ w'.drew.cell? ⟨b, o + 3, none⟩ = some b3 ∧ w'.drew.cell? ⟨b, o + 4, none⟩ = some b4 ∧ w'.drew.cell? ⟨b, o + 5, none⟩ = some b5 := ⟨Below.drew h.1, h.2⟩
theorem keep12b {W w' w'' : World} {g b o : Nat} {a0 a1 a2 a3 a4 a5 b0 b1 b2 b3 b4 b5 : Value} (h : Below W.heap.size W w' ∧ w'.cell? ⟨g, 0, none⟩ = some a0 ∧ w'.cell? ⟨g, 1, none⟩ = some a1 ∧ w'.cell? ⟨g, 2, none⟩ = some a2 ∧ w'.cell? ⟨g, 3, none⟩ = some a3 ∧ w'.cell? ⟨g, 4, none⟩ = some a4 ∧ w'.cell? ⟨g, 5, none⟩ = some a5 ∧ w'.cell? ⟨b, o, none⟩ = some b0 ∧ w'.cell? ⟨b, o + 1, none⟩ = some b1 ∧ w'.cell? ⟨b, o + 2, none⟩ = some b2 ∧ w'.cell? ⟨b, o + 3, none⟩ = some b3 ∧ w'.cell? ⟨b, o + 4, none⟩ = some b4 ∧ w'.cell? ⟨b, o + 5, none⟩ = some b5) (hg : g < W.heap.size) (hh : b < W.heap.size) (hb : Below w'.heap.size w' w'') :
    Below W.heap.size W w'' ∧ w''.cell? ⟨g, 0, none⟩ = some a0 ∧ w''.cell? ⟨g, 1, none⟩ = some a1 ∧ w''.cell? ⟨g, 2, none⟩ = some a2 ∧ w''.cell? ⟨g, 3, none⟩ = some a3 ∧ w''.cell? ⟨g, 4, none⟩ = some a4 ∧ w''.cell? ⟨g, 5, none⟩ = some a5 ∧ w''.cell? ⟨b, o, none⟩ = some b0 ∧ w''.cell? ⟨b, o + 1, none⟩ = some b1 ∧ w''.cell? ⟨b, o + 2, none⟩ = some b2 ∧ w''.cell? ⟨b, o + 3, none⟩ = some b3 ∧ w''.cell? ⟨b, o + 4, none⟩ = some b4 ∧ w''.cell? ⟨b, o + 5, none⟩ = some b5 := by
  obtain ⟨bb, c0, c1, c2, c3, c4, c5, d0, d1, d2, d3, d4, d5⟩ := h
  have hs := Nat.lt_of_lt_of_le hg bb.size
  have hs' := Nat.lt_of_lt_of_le hh bb.size
  have f := fun (p : Addr) (u : Value) (hp : p.block < w'.heap.size) (h : w'.cell? p = some u) => (hb.cell (p := p) hp).trans h
  exact ⟨bThen bb hb, f ⟨g, 0, none⟩ _ hs c0, f ⟨g, 1, none⟩ _ hs c1, f ⟨g, 2, none⟩ _ hs c2, f ⟨g, 3, none⟩ _ hs c3, f ⟨g, 4, none⟩ _ hs c4, f ⟨g, 5, none⟩ _ hs c5, f ⟨b, o, none⟩ _ hs' d0, f ⟨b, o + 1, none⟩ _ hs' d1, f ⟨b, o + 2, none⟩ _ hs' d2, f ⟨b, o + 3, none⟩ _ hs' d3, f ⟨b, o + 4, none⟩ _ hs' d4, f ⟨b, o + 5, none⟩ _ hs' d5⟩
set_option maxRecDepth 100000 in
set_option maxHeartbeats 2000000 in
theorem pright_any (l : List Pn) (v : Value) (w : World) (hv : Row Pn.cs 6 w v l) (hwf : ∀ p ∈ l, p.k.size ≤ maxLen) (hm : l.length ≤ maxLen) :
    Calls Try.prog 47 #[v] w fun e w' => e = .returned (.bool (prB l)) ∧ Below w.heap.size w w' := by
  have HV := Lib.hid hv
  have HWF := Lib.hid hwf
  obtain ⟨A, c, rfl, hc, -⟩ := hv
  obtain ⟨n, hn⟩ : ∃ n, l.length = n := ⟨_, rfl⟩
  have HN := Lib.hid hn
  rw [hn] at hm hc HV ⊢
  have HM := Lib.hid hm
  clear hwf hn hm
  by_cases h2 : n ≤ 2000
  rotate_left
  · have hd : decide ((2000 : Int) < (n : Int)) = true := decide_eq_true (by omega)
    have hd2 : 2000 < n := by omega
    have hm := HM.out
    unfold maxLen at hm
    go_enter Try.func47, Try.ntmps47
    go_wp2_with fail
    go_ret
    exact ⟨by unfold prB; rw [HN.out, decide_eq_false h2]; rfl, Below.refl _ _⟩
  have hd : decide ((2000 : Int) < (n : Int)) = false := decide_eq_false (by omega)
  have hd2 : ¬ 2000 < n := by omega
  go_enter Try.func47, Try.ntmps47
  go_wp2_with fail
  go_loopw [10] (fun i wr => PrRel l w i wr) (fun i _ => n - (intOf i).toNat)
  case atStart => exact ⟨0, Nat.zero_le _, rfl, rfl, Below.refl _ _⟩
  case round =>
    obtain ⟨k, hk, rfl, hall, hbel⟩ := hrel
    rw [HN.out] at hk
    have HB := Lib.hid hbel
    have HL := Lib.hid hall
    clear hbel hall
    by_cases hlt : k < n
    rotate_left
    · obtain rfl : k = n := by omega
      go_wp2_with fail
      go_ret
      exact ⟨by unfold prB; rw [HN.out, HL.out, decide_eq_true h2]; rfl, HB.out⟩
    obtain ⟨x, hi⟩ : ∃ x, l[k]? = some x := ⟨_, List.getElem?_eq_getElem (by rw [HN.out]; exact hlt)⟩
    have hrow := HV.out.below HB.out
    obtain ⟨b, o, c', hv', hcc, hb, hX⟩ := hrow.at_ hi
    rw [HN.out] at hv'
    injection hv' with e1 e2 e3
    subst e1 e3
    have c0 := hX 0 _ rfl
    have c1 := hX 1 _ rfl
    have c2 := hX 2 _ rfl
    have c3 := hX 3 _ rfl
    have c4 := hX 4 _ rfl
    have c5 := hX 5 _ rfl
    simp only [Nat.add_zero] at c0 c1 c2 c3 c4 c5
    have hkx := HWF.out x (List.mem_of_getElem? hi)
    obtain ⟨bm, hbm⟩ : ∃ q, pmB x = q := ⟨_, rfl⟩
    have HP := Lib.hid (fun W => pmay_any x W hkx)
    rw [hbm] at HP
    have HCK := Lib.hid (show pokAt l k = (bm && (decide (k = 0) || decide (cmpP l[k - 1]! x < 0))) by unfold pokAt; rw [pn_get hi, hbm])
    have HI := Lib.hid hi
    clear hX hkx hbm hi hcc
    obtain ⟨lo, hi, ks, pn, pa, pb⟩ := x
    unfold Pn.val at HP
    simp only at c0 c1 c2 c3 c4 c5 HP
    go_upto_region 6 with fail
    clear c0 c1 c2 c3 c4 c5
    obtain ⟨W6, hW6⟩ : ∃ X, X = wr.alloc (.cells #[.int .i64 lo, .int .i64 hi, .string ks, .int .i64 pn, .int .i64 pa, .int .i64 pb] 59) := ⟨_, rfl⟩
    rw [← hW6]
    have B6 := Lib.hid (show Below wr.heap.size wr W6 by rw [hW6]; exact bel_alloc (Below.refl _ _) _)
    have Bp := Lib.hid (show W6.heap[wr.heap.size]? = some (.cells #[.int .i64 lo, .int .i64 hi, .string ks, .int .i64 pn, .int .i64 pa, .int .i64 pb] 59 (0, 0)) by rw [hW6]; exact heap_at _ _ _ rfl)
    clear hW6
    have BB := Lib.hid (bThen HB.out B6.out)
    obtain ⟨ck, hck⟩ : ∃ q, pokAt l k = q := ⟨_, rfl⟩
    rw [hck] at HCK
    have HCQ := Lib.hid hck
    clear hck
    have hb6 : b < W6.heap.size := Nat.lt_of_lt_of_le hb B6.out.size
    go_cut [31] from 15 to 32 (fun v W => v = .bool (!ck) ∧ Below W6.heap.size W6 W)
    case first =>
      have zp := blk_lt Bp.out
      have xp0 := cellsAt Bp.out 0
      have xp1 := cellsAt Bp.out 1
      have xp2 := cellsAt Bp.out 2
      have xp3 := cellsAt Bp.out 3
      have xp4 := cellsAt Bp.out 4
      have xp5 := cellsAt Bp.out 5
      simp at xp0 xp1 xp2 xp3 xp4 xp5
      cases bm with
      | false =>
        have hck : ck = false := by rw [HCK.out]; rfl
        have hyu := yieldQ
        refine wp_region_head2 (by kernel_rfl) (by kernel_rfl) (by kernel_rfl) (by kernel_rfl) (by kernel_rfl) rfl rfl ?_
        intro K1 hK1
        go_simp
        refine hK1 _ _ ?_
        intro K2 hK2
        go_simp
        go_at_call 64
        refine (HP.out _).mono ?_
        rintro e w2 ⟨rfl, hb2⟩
        have hB : Below W6.heap.size W6 w2 := bUndrewQ hb2
        refine hK2 _ _ ?_
        with_reducible refine wpStill_value (v := ?v1_17) (a' := ?a1_17) ?w1_17 ?x1_17 ?p1_17 ?_
        case w1_17 => kernel_rfl
        case x1_17 =>
          go_simp
          try rfl
        case p1_17 =>
          go_simp
          try rfl
        with_reducible refine wpStill_value (v := ?v1_18) (a' := ?a1_18) ?w1_18 ?x1_18 ?p1_18 ?_
        case w1_18 => kernel_rfl
        case x1_18 =>
          go_simp
          try rfl
        case p1_18 =>
          go_simp
          try rfl
        with_reducible refine wpStill_none (a' := ?a1_19) ?w1_19 ?p1_19 ?_
        case w1_19 => kernel_rfl
        case p1_19 =>
          go_simp
          try rfl
        with_reducible refine wpStill_none (a' := ?a1_20) ?w1_20 ?p1_20 ?_
        case w1_20 => kernel_rfl
        case p1_20 =>
          go_simp
          try rfl
        with_reducible refine wpStill_none (a' := ?a1_21) ?w1_21 ?p1_21 ?_
        case w1_21 => kernel_rfl
        case p1_21 =>
          go_simp
          try rfl
        with_reducible refine wpStill_none (a' := ?a1_22) ?w1_22 ?p1_22 ?_
        case w1_22 => kernel_rfl
        case p1_22 =>
          go_simp
          try rfl
        with_reducible refine wpStill_none (a' := ?a1_23) ?w1_23 ?p1_23 ?_
        case w1_23 => kernel_rfl
        case p1_23 =>
          go_simp
          try rfl
        with_reducible refine wpStill_none (a' := ?a1_24) ?w1_24 ?p1_24 ?_
        case w1_24 => kernel_rfl
        case p1_24 =>
          go_simp
          try rfl
        with_reducible refine wpStill_none (a' := ?a1_25) ?w1_25 ?p1_25 ?_
        case w1_25 => kernel_rfl
        case p1_25 =>
          go_simp
          try rfl
        with_reducible refine wpStill_none (a' := ?a1_26) ?w1_26 ?p1_26 ?_
        case w1_26 => kernel_rfl
        case p1_26 =>
          go_simp
          try rfl
        with_reducible refine wpStill_none (a' := ?a1_27) ?w1_27 ?p1_27 ?_
        case w1_27 => kernel_rfl
        case p1_27 =>
          go_simp
          try rfl
        with_reducible refine wpStill_none (a' := ?a1_28) ?w1_28 ?p1_28 ?_
        case w1_28 => kernel_rfl
        case p1_28 =>
          go_simp
          try rfl
        with_reducible refine wpStill_none (a' := ?a1_29) ?w1_29 ?p1_29 ?_
        case w1_29 => kernel_rfl
        case p1_29 =>
          go_simp
          try rfl
        with_reducible refine wpStill_none (a' := ?a1_30) ?w1_30 ?p1_30 ?_
        case w1_30 => kernel_rfl
        case p1_30 =>
          go_simp
          try rfl
        with_reducible refine wpStill_value (v := ?v1_31) (a' := ?a1_31) ?w1_31 ?x1_31 ?p1_31 ?_
        case w1_31 => kernel_rfl
        case x1_31 =>
          go_simp
          try rfl
        case p1_31 =>
          go_simp
          try rfl
        refine wpStill_nil ?_
        go_wp2_with fail
        go_meet
        subst hck
        exact ⟨rfl, hB⟩
      | true =>
        by_cases hk0 : k = 0
        · subst hk0
          have hck : ck = true := by rw [HCK.out]; rfl
          have hyu := yieldQ
          refine wp_region_head2 (by kernel_rfl) (by kernel_rfl) (by kernel_rfl) (by kernel_rfl) (by kernel_rfl) rfl rfl ?_
          intro K1 hK1
          go_simp
          refine hK1 _ _ ?_
          intro K2 hK2
          go_simp
          go_at_call 64
          refine (HP.out _).mono ?_
          rintro e w2 ⟨rfl, hb2⟩
          have hB : Below W6.heap.size W6 w2 := bUndrewQ hb2
          refine hK2 _ _ ?_
          with_reducible refine wpStill_value (v := ?v2_17) (a' := ?a2_17) ?w2_17 ?x2_17 ?p2_17 ?_
          case w2_17 => kernel_rfl
          case x2_17 =>
            go_simp
            try rfl
          case p2_17 =>
            go_simp
            try rfl
          with_reducible refine wpStill_value (v := ?v2_18) (a' := ?a2_18) ?w2_18 ?x2_18 ?p2_18 ?_
          case w2_18 => kernel_rfl
          case x2_18 =>
            go_simp
            try rfl
          case p2_18 =>
            go_simp
            try rfl
          with_reducible refine wpStill_value (v := ?v2_19) (a' := ?a2_19) ?w2_19 ?x2_19 ?p2_19 ?_
          case w2_19 => kernel_rfl
          case x2_19 =>
            go_simp
            try rfl
          case p2_19 =>
            go_simp
            try rfl
          with_reducible refine wpStill_value (v := ?v2_20) (a' := ?a2_20) ?w2_20 ?x2_20 ?p2_20 ?_
          case w2_20 => kernel_rfl
          case x2_20 =>
            go_simp
            try rfl
          case p2_20 =>
            go_simp
            try rfl
          with_reducible refine wpStill_value (v := ?v2_21) (a' := ?a2_21) ?w2_21 ?x2_21 ?p2_21 ?_
          case w2_21 => kernel_rfl
          case x2_21 =>
            go_simp
            try rfl
          case p2_21 =>
            go_simp
            try rfl
          with_reducible refine wpStill_none (a' := ?a2_22) ?w2_22 ?p2_22 ?_
          case w2_22 => kernel_rfl
          case p2_22 =>
            go_simp
            try rfl
          with_reducible refine wpStill_none (a' := ?a2_23) ?w2_23 ?p2_23 ?_
          case w2_23 => kernel_rfl
          case p2_23 =>
            go_simp
            try rfl
          with_reducible refine wpStill_none (a' := ?a2_24) ?w2_24 ?p2_24 ?_
          case w2_24 => kernel_rfl
          case p2_24 =>
            go_simp
            try rfl
          with_reducible refine wpStill_none (a' := ?a2_25) ?w2_25 ?p2_25 ?_
          case w2_25 => kernel_rfl
          case p2_25 =>
            go_simp
            try rfl
          with_reducible refine wpStill_none (a' := ?a2_26) ?w2_26 ?p2_26 ?_
          case w2_26 => kernel_rfl
          case p2_26 =>
            go_simp
            try rfl
          with_reducible refine wpStill_none (a' := ?a2_27) ?w2_27 ?p2_27 ?_
          case w2_27 => kernel_rfl
          case p2_27 =>
            go_simp
            try rfl
          with_reducible refine wpStill_none (a' := ?a2_28) ?w2_28 ?p2_28 ?_
          case w2_28 => kernel_rfl
          case p2_28 =>
            go_simp
            try rfl
          with_reducible refine wpStill_none (a' := ?a2_29) ?w2_29 ?p2_29 ?_
          case w2_29 => kernel_rfl
          case p2_29 =>
            go_simp
            try rfl
          with_reducible refine wpStill_value (v := ?v2_30) (a' := ?a2_30) ?w2_30 ?x2_30 ?p2_30 ?_
          case w2_30 => kernel_rfl
          case x2_30 =>
            go_simp
            try rfl
          case p2_30 =>
            go_simp
            try rfl
          with_reducible refine wpStill_value (v := ?v2_31) (a' := ?a2_31) ?w2_31 ?x2_31 ?p2_31 ?_
          case w2_31 => kernel_rfl
          case x2_31 =>
            go_simp
            try rfl
          case p2_31 =>
            go_simp
            try rfl
          refine wpStill_nil ?_
          go_wp2_with fail
          go_meet
          subst hck
          exact ⟨rfl, hB⟩
        · obtain ⟨y, hy⟩ : ∃ y, l[k - 1]? = some y := ⟨_, List.getElem?_eq_getElem (by rw [HN.out]; omega)⟩
          have hrow := HV.out.below BB.out
          obtain ⟨b', o', c', hv', -, -, hX⟩ := hrow.at_ hy
          rw [HN.out] at hv'
          injection hv' with e1 e2 e3
          injection e1 with e1
          injection e1 with e1 e4 e5
          subst e1 e4 e3
          have r0 := hX 0 _ rfl
          have r1 := hX 1 _ rfl
          have r2 := hX 2 _ rfl
          have r3 := hX 3 _ rfl
          have r4 := hX 4 _ rfl
          have r5 := hX 5 _ rfl
          simp only [Nat.add_zero] at r0 r1 r2 r3 r4 r5
          have HQ := Lib.hid (fun W => cmpp_any y ⟨lo, hi, ks, pn, pa, pb⟩ W)
          obtain ⟨cv, hcv⟩ : ∃ q, cmpP y ⟨lo, hi, ks, pn, pa, pb⟩ = q := ⟨_, rfl⟩
          rw [hcv] at HQ
          have hck : ck = decide (cv < 0) := by rw [HCK.out, pn_get hy, hcv, decide_eq_false hk0]; rfl
          have HCK2 := Lib.hid hck
          clear hck hX hrow hcv hy
          obtain ⟨lo2, hi2, ks2, pn2, pa2, pb2⟩ := y
          unfold Pn.val at HQ
          simp only at r0 r1 r2 r3 r4 r5 HQ
          have hk1 : (0 : Int) < (k : Int) := by omega
          have hk1b : decide ((0 : Int) < (k : Int)) = true := decide_eq_true hk1
          have hk1c : 0 < k := by omega
          have hk1d : decide (0 < k) = true := decide_eq_true hk1c
          have hk3 : ((k : Int) - 1).toNat = k - 1 := by omega
          have hk4 : (0 : Int) ≤ (k : Int) - 1 := by omega
          have hk5 : (k : Int) - 1 < (n : Int) := by omega
          have hk6 : IntKind.i64.wrap ((k : Int) - 1) = (k : Int) - 1 := by rw [IntKind.wrap_i64]; omega
          have hk7 : wrap64 ((k : Int) - 1) = (k : Int) - 1 := by unfold wrap64; omega
          have hk8 : (1 : Int) ≤ (k : Int) := by omega
          have hk9 : ¬ ((k : Int) - 1 < 0) := by omega
          have hk10 : ¬ ((n : Int) ≤ (k : Int) - 1) := by omega
          have hS : Below W6.heap.size W6 W6 ∧ W6.cell? ⟨wr.heap.size, 0, none⟩ = some (.int .i64 lo) ∧ W6.cell? ⟨wr.heap.size, 1, none⟩ = some (.int .i64 hi) ∧ W6.cell? ⟨wr.heap.size, 2, none⟩ = some (.string ks) ∧ W6.cell? ⟨wr.heap.size, 3, none⟩ = some (.int .i64 pn) ∧ W6.cell? ⟨wr.heap.size, 4, none⟩ = some (.int .i64 pa) ∧ W6.cell? ⟨wr.heap.size, 5, none⟩ = some (.int .i64 pb) ∧ W6.cell? ⟨b, o + (k - 1) * 6, none⟩ = some (.int .i64 lo2) ∧ W6.cell? ⟨b, o + (k - 1) * 6 + 1, none⟩ = some (.int .i64 hi2) ∧ W6.cell? ⟨b, o + (k - 1) * 6 + 2, none⟩ = some (.string ks2) ∧ W6.cell? ⟨b, o + (k - 1) * 6 + 3, none⟩ = some (.int .i64 pn2) ∧ W6.cell? ⟨b, o + (k - 1) * 6 + 4, none⟩ = some (.int .i64 pa2) ∧ W6.cell? ⟨b, o + (k - 1) * 6 + 5, none⟩ = some (.int .i64 pb2) := ⟨Below.refl _ _, xp0, xp1, xp2, xp3, xp4, xp5, r0, r1, r2, r3, r4, r5⟩
          clear Bp HV HB BB B6
          go_region_held3 (fun w' => Below W6.heap.size W6 w' ∧ w'.cell? ⟨wr.heap.size, 0, none⟩ = some (.int .i64 lo) ∧ w'.cell? ⟨wr.heap.size, 1, none⟩ = some (.int .i64 hi) ∧ w'.cell? ⟨wr.heap.size, 2, none⟩ = some (.string ks) ∧ w'.cell? ⟨wr.heap.size, 3, none⟩ = some (.int .i64 pn) ∧ w'.cell? ⟨wr.heap.size, 4, none⟩ = some (.int .i64 pa) ∧ w'.cell? ⟨wr.heap.size, 5, none⟩ = some (.int .i64 pb) ∧ w'.cell? ⟨b, o + (k - 1) * 6, none⟩ = some (.int .i64 lo2) ∧ w'.cell? ⟨b, o + (k - 1) * 6 + 1, none⟩ = some (.int .i64 hi2) ∧ w'.cell? ⟨b, o + (k - 1) * 6 + 2, none⟩ = some (.string ks2) ∧ w'.cell? ⟨b, o + (k - 1) * 6 + 3, none⟩ = some (.int .i64 pn2) ∧ w'.cell? ⟨b, o + (k - 1) * 6 + 4, none⟩ = some (.int .i64 pa2) ∧ w'.cell? ⟨b, o + (k - 1) * 6 + 5, none⟩ = some (.int .i64 pb2)) (first | assumption | exact keep12 (by assumption) | exact keep12b (by assumption) zp hb6 (by assumption)) (first | (go_at_call 64; refine (HP.out _).mono ?_; rintro e wx ⟨rfl, hbx⟩) | (go_at_call 65; refine (HQ.out _).mono ?_; rintro e wx ⟨rfl, hbx⟩))
          go_wp2_with fail
          go_meet
          exact ⟨by rw [HCK2.out]; simp; rw [Bool.eq_iff_iff]; simp, And.left (by assumption)⟩
    case rest =>
      obtain ⟨rfl, hbc⟩ := hcut
      have BC := Lib.hid (bThen BB.out hbc)
      clear hbc
      cases ck with
      | true =>
        go_wp2_with fail
        go_roundw
        case rel => exact ⟨k + 1, by rw [HN.out]; omega, by go_num, by rw [pall_succ, HL.out, HCQ.out]; rfl, BC.out⟩
        case measure => simp [intOf]; omega
      | false =>
        go_wp2_with fail
        go_ret
        exact ⟨by unfold prB; rw [HN.out, pall_not _ hlt HCQ.out]; simp, BC.out⟩
end Go.Proofs.Ytlboehpgpbchhaa
