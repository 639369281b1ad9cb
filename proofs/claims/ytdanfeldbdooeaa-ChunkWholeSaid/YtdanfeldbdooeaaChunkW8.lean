/-
  WALKS of layer 20: Right of the program.
-/
import Derived.Test.YtdanfeldbdooeaaChunkW6
import Derived.Test.YtdanfeldbdooeaaRowsPush
import Derived.Test.YtdanfeldbdooeaaRegHead
import Derived.Deep.RegionLaw
import Derived.Deep.DeepCutAuto
set_option linter.unusedVariables false
set_option linter.unusedSimpArgs false
namespace Go.Proofs.Ytdanfeldbdooeaa
open Go.RowKit

instance : Inhabited Ck := ⟨⟨0, 0, 0, ⟨#[]⟩⟩⟩
def Ck.Ok (c : Ck) : Prop := c.b.size ≤ 9223372036854775807 ∧ (-9223372036854775808 ≤ c.of_ ∧ c.of_ ≤ 9223372036854775807)
def ckAt (g o : Int) (l : List Ck) (j : Nat) : Bool := mayB l[j]! && (decide (l[j]!.g = g) && (decide (l[j]!.of_ = o) && (decide (j = 0) || decide (l[j - 1]!.no < l[j]!.no))))
def cksB (g o : Int) (l : List Ck) : Bool := (List.range l.length).all (ckAt g o l)
def groupB (g : Int) : Bool := decide (0 ≤ g) && decide (g < 32)
def rightG (g o : Int) (l : List Ck) : Bool := (groupB g && (decide (0 ≤ o) && decide (o ≤ 512))) && cksB g o l
theorem ckAt_get {l : List Ck} {k : Nat} {x : Ck} (h : l[k]? = some x) : l[k]! = x := by rw [List.getElem!_eq_getElem?_getD, h]; rfl
def CRel (g o : Int) (l : List Ck) (W1 : World) (i : Value) (wr : World) : Prop := ∃ k : Nat, k ≤ l.length ∧ i = .int .i64 k ∧ (List.range k).all (ckAt g o l) = true ∧ Below W1.heap.size W1 wr
theorem yieldU : (yielded.match_1 (fun _ => Option Bool) (some undef) (fun b => some b) (fun _ => none)) = none := rfl
theorem bUndrewC {W w' : World} (h : Below W.drew.heap.size W.drew w') : Below W.heap.size W w' := ⟨h.os, h.tape, h.output, h.size, h.block⟩
set_option maxRecDepth 100000 in
set_option maxHeartbeats 4000000 in
theorem cright_any (g o : Int) (l : List Ck) (v : Value) (w : World) (hv : Row Ck.cs 4 w v l) (hl : l.length ≤ 1000000) (hok : ∀ x ∈ l, x.Ok) (b : Bool) (hb : rightG g o l = b) :
    Calls Try.prog 27 #[.agg #[.int .i64 g, .int .i64 o, v]] w fun e w' => e = .returned (.bool b) ∧ Below w.heap.size w w' := by
  have HH := Lib.hid hv
  obtain ⟨A, c, rfl, -⟩ := hv
  obtain ⟨m, hm⟩ : ∃ m, l.length = m := ⟨_, rfl⟩
  rw [hm] at HH hl ⊢
  have Hm := Lib.hid hm
  have HOK := Lib.hid hok
  obtain ⟨gb, hgb⟩ : ∃ q, groupB g = q := ⟨_, rfl⟩
  have HT := Lib.hid (fun W => group_any g W gb hgb)
  have HGB := Lib.hid hgb
  have HBB := Lib.hid hb
  clear hm hok hgb hb
  go_enter Try.func27, Try.ntmps27
  go_wp2_with fail
  refine (HT.out _).mono ?_
  rintro e w1 ⟨rfl, rfl⟩
  obtain ⟨W1, hW2⟩ : ∃ X, X = (w).alloc (.cells #[.int .i64 g, .int .i64 o, .slice A m c] 52) := ⟨_, rfl⟩
  rw [← hW2]
  have hb3 : Below w.heap.size w W1 := by rw [hW2]; exact bel_alloc (Below.refl _ _) _
  have Ns := Lib.hid (show W1.heap[w.heap.size]? = some (.cells #[.int .i64 g, .int .i64 o, .slice A m c] 52 (0, 0)) by rw [hW2]; exact heap_at (w) _ (w.heap.size) (by simp))
  clear hW2
  have BB4 := Lib.hid hb3
  clear hb3
  have Bls := Ns
  clear Ns
  have zs := blk_lt Bls.out
  have xs0 := cellsAt Bls.out 0
  have xs1 := cellsAt Bls.out 1
  have xs2 := cellsAt Bls.out 2
  have fs := frozAt Bls.out
  simp at xs0 xs1 xs2
  cases gb with
  | false =>
    have hbb := HBB.out
    unfold rightG at hbb
    rw [HGB.out, Bool.false_and, Bool.false_and] at hbb
    subst hbb
    go_wp2_with fail
    go_ret
    exact ⟨rfl, BB4.out⟩
  | true =>
    by_cases h0 : o < 0
    · have t0 : decide (o < 0) = true := by simpa using h0
      have hbb := HBB.out
      unfold rightG at hbb
      rw [show decide (0 ≤ o) = false by simp; omega, Bool.false_and, Bool.and_false, Bool.false_and] at hbb
      subst hbb
      go_wp2_with fail
      go_ret
      exact ⟨rfl, BB4.out⟩
    · have t0 : decide (o < 0) = false := by simpa using h0
      by_cases h5 : 512 < o
      · have t5 : decide (512 < o) = true := by simpa using h5
        have hbb := HBB.out
        unfold rightG at hbb
        rw [show decide (o ≤ 512) = false by simp; omega, Bool.and_false, Bool.and_false, Bool.false_and] at hbb
        subst hbb
        go_wp2_with fail
        go_ret
        exact ⟨rfl, BB4.out⟩
      · have t5 : decide (512 < o) = false := by simpa using h5
        have HB2 := Lib.hid (show cksB g o l = b by have hbb := HBB.out; unfold rightG at hbb; rw [HGB.out, show decide (0 ≤ o) = true by simp; omega, show decide (o ≤ 512) = true by simp; omega] at hbb; simpa using hbb)
        go_wp2_with fail
        clear zs fs xs0 xs1 xs2
        go_loopw [22] (fun i wr => CRel g o l W1 i wr) (fun i _ => m - (intOf i).toNat)
        case atStart => exact ⟨0, Nat.zero_le _, rfl, rfl, Below.refl _ _⟩
        case round =>
          obtain ⟨k, hk, rfl, hall, hbj⟩ := hrel
          rw [Hm.out] at hk
          have BJ := Lib.hid hbj
          have HALL := Lib.hid hall
          clear hall
          have Z := Lib.hid (heap_below Bls.out hbj)
          clear Bls
          have Bls := Z
          clear Z
          have BB5 := Lib.hid (bThen BB4.out hbj)
          clear hbj
          by_cases hlt : k < m
          · obtain ⟨x, hi⟩ : ∃ x, l[k]? = some x := ⟨_, List.getElem?_eq_getElem (by rw [Hm.out]; exact hlt)⟩
            have HX := Lib.hid hi
            have hxo := HOK.out x (List.mem_of_getElem? hi)
            obtain ⟨b1, o1, c3, e', hc', hb1, hX⟩ := (HH.out.below BB5.out).at_ hi
            injection e' with e1 e2 e3
            clear e2
            subst e1 e3
            have k0 := hX 0 _ rfl
            have k1 := hX 1 _ rfl
            have k2 := hX 2 _ rfl
            have k3 := hX 3 _ rfl
            clear hX hi
            simp only [Nat.add_zero] at k0 k1 k2 k3
            obtain ⟨bm, hbm⟩ : ∃ q, mayB x = q := ⟨_, rfl⟩
            have HP := Lib.hid (fun W => may_any x W bm hbm hxo.1 hxo.2)
            have HBM := Lib.hid hbm
            have HCK := Lib.hid (show ckAt g o l k = (bm && (decide (x.g = g) && (decide (x.of_ = o) && (decide (k = 0) || decide (l[k - 1]!.no < x.no))))) by unfold ckAt; rw [ckAt_get HX.out, hbm])
            clear hbm hxo
            obtain ⟨xg, xn, xo, xb⟩ := x
            simp only at k0 k1 k2 k3 HP HCK
            go_upto_region 6 with fail
            clear k0 k1 k2 k3
            obtain ⟨W6, hW7⟩ : ∃ X, X = (wr).alloc (.cells #[.int .i64 xg, .int .i64 xn, .int .i64 xo, .string xb] 56) := ⟨_, rfl⟩
            rw [← hW7]
            have hb8 : Below wr.heap.size wr W6 := by rw [hW7]; exact bel_alloc (Below.refl _ _) _
            have HBC0 := Lib.hid hb8
            have Nc := Lib.hid (show W6.heap[wr.heap.size]? = some (.cells #[.int .i64 xg, .int .i64 xn, .int .i64 xo, .string xb] 56 (0, 0)) by rw [hW7]; exact heap_at (wr) _ (wr.heap.size) (by simp))
            clear hW7
            have Z := Lib.hid (heap_below Bls.out hb8)
            clear Bls
            have Bls := Z
            clear Z
            have BB9 := Lib.hid (bThen BB5.out hb8)
            clear hb8
            have Blc := Nc
            clear Nc
            obtain ⟨ck, hck⟩ : ∃ q, ckAt g o l k = q := ⟨_, rfl⟩
            rw [hck] at HCK
            have HCQ := Lib.hid hck
            clear hck
            go_cut [59] (fun v W => v = .bool (!ck) ∧ Below W6.heap.size W6 W)
            case first =>
              cases bm with
              | false =>
                have hck : ck = false := by rw [HCK.out]; rfl
                have zs := blk_lt Bls.out
                have xs0 := cellsAt Bls.out 0
                have xs1 := cellsAt Bls.out 1
                have xs2 := cellsAt Bls.out 2
                have fs := frozAt Bls.out
                simp at xs0 xs1 xs2
                have zc := blk_lt Blc.out
                have xc0 := cellsAt Blc.out 0
                have xc1 := cellsAt Blc.out 1
                have xc2 := cellsAt Blc.out 2
                have xc3 := cellsAt Blc.out 3
                have fc := frozAt Blc.out
                simp at xc0 xc1 xc2 xc3
                have hyu := yieldU
                refine wp_region_head2 (by kernel_rfl) (by kernel_rfl) (by kernel_rfl) (by kernel_rfl) (by kernel_rfl) rfl rfl ?_
                intro K1 hK1
                go_simp
                refine hK1 _ _ ?_
                intro K2 hK2
                go_simp
                go_at_call 61
                refine (HP.out _).mono ?_
                rintro e w2 ⟨rfl, hb2⟩
                have hB := (by first | exact hb2 | exact bUndrewC hb2 : Below W6.heap.size W6 w2)
                have X1 := heap_below Bls.out hB
                have X2 := heap_below Blc.out hB
                have zs2 := blk_lt X1
                have zc2 := blk_lt X2
                have ys0 := cellsAt X1 0
                have ys1 := cellsAt X1 1
                have ys2 := cellsAt X1 2
                have yc0 := cellsAt X2 0
                have yc1 := cellsAt X2 1
                have yc2 := cellsAt X2 2
                have yc3 := cellsAt X2 3
                simp at ys0 ys1 ys2 yc0 yc1 yc2 yc3
                refine hK2 _ _ ?_
                with_reducible refine wpStill_value (v := ?v1_29) (a' := ?a1_29) ?w1_29 ?x1_29 ?p1_29 ?_
                case w1_29 => kernel_rfl
                case x1_29 =>
                  go_simp
                  try rfl
                case p1_29 =>
                  go_simp
                  try rfl
                with_reducible refine wpStill_value (v := ?v1_30) (a' := ?a1_30) ?w1_30 ?x1_30 ?p1_30 ?_
                case w1_30 => kernel_rfl
                case x1_30 =>
                  go_simp
                  try rfl
                case p1_30 =>
                  go_simp
                  try rfl
                with_reducible refine wpStill_none (a' := ?a1_31) ?w1_31 ?p1_31 ?_
                case w1_31 => kernel_rfl
                case p1_31 =>
                  go_simp
                  try rfl
                with_reducible refine wpStill_none (a' := ?a1_32) ?w1_32 ?p1_32 ?_
                case w1_32 => kernel_rfl
                case p1_32 =>
                  go_simp
                  try rfl
                with_reducible refine wpStill_none (a' := ?a1_33) ?w1_33 ?p1_33 ?_
                case w1_33 => kernel_rfl
                case p1_33 =>
                  go_simp
                  try rfl
                with_reducible refine wpStill_none (a' := ?a1_34) ?w1_34 ?p1_34 ?_
                case w1_34 => kernel_rfl
                case p1_34 =>
                  go_simp
                  try rfl
                with_reducible refine wpStill_none (a' := ?a1_35) ?w1_35 ?p1_35 ?_
                case w1_35 => kernel_rfl
                case p1_35 =>
                  go_simp
                  try rfl
                with_reducible refine wpStill_value (v := ?v1_36) (a' := ?a1_36) ?w1_36 ?x1_36 ?p1_36 ?_
                case w1_36 => kernel_rfl
                case x1_36 =>
                  go_simp
                  try rfl
                case p1_36 =>
                  go_simp
                  try rfl
                with_reducible refine wpStill_value (v := ?v1_37) (a' := ?a1_37) ?w1_37 ?x1_37 ?p1_37 ?_
                case w1_37 => kernel_rfl
                case x1_37 =>
                  go_simp
                  try rfl
                case p1_37 =>
                  go_simp
                  try rfl
                with_reducible refine wpStill_none (a' := ?a1_38) ?w1_38 ?p1_38 ?_
                case w1_38 => kernel_rfl
                case p1_38 =>
                  go_simp
                  try rfl
                with_reducible refine wpStill_none (a' := ?a1_39) ?w1_39 ?p1_39 ?_
                case w1_39 => kernel_rfl
                case p1_39 =>
                  go_simp
                  try rfl
                with_reducible refine wpStill_none (a' := ?a1_40) ?w1_40 ?p1_40 ?_
                case w1_40 => kernel_rfl
                case p1_40 =>
                  go_simp
                  try rfl
                with_reducible refine wpStill_none (a' := ?a1_41) ?w1_41 ?p1_41 ?_
                case w1_41 => kernel_rfl
                case p1_41 =>
                  go_simp
                  try rfl
                with_reducible refine wpStill_none (a' := ?a1_42) ?w1_42 ?p1_42 ?_
                case w1_42 => kernel_rfl
                case p1_42 =>
                  go_simp
                  try rfl
                with_reducible refine wpStill_value (v := ?v1_43) (a' := ?a1_43) ?w1_43 ?x1_43 ?p1_43 ?_
                case w1_43 => kernel_rfl
                case x1_43 =>
                  go_simp
                  try rfl
                case p1_43 =>
                  go_simp
                  try rfl
                with_reducible refine wpStill_value (v := ?v1_44) (a' := ?a1_44) ?w1_44 ?x1_44 ?p1_44 ?_
                case w1_44 => kernel_rfl
                case x1_44 =>
                  go_simp
                  try rfl
                case p1_44 =>
                  go_simp
                  try rfl
                with_reducible refine wpStill_none (a' := ?a1_45) ?w1_45 ?p1_45 ?_
                case w1_45 => kernel_rfl
                case p1_45 =>
                  go_simp
                  try rfl
                with_reducible refine wpStill_none (a' := ?a1_46) ?w1_46 ?p1_46 ?_
                case w1_46 => kernel_rfl
                case p1_46 =>
                  go_simp
                  try rfl
                with_reducible refine wpStill_none (a' := ?a1_47) ?w1_47 ?p1_47 ?_
                case w1_47 => kernel_rfl
                case p1_47 =>
                  go_simp
                  try rfl
                with_reducible refine wpStill_none (a' := ?a1_48) ?w1_48 ?p1_48 ?_
                case w1_48 => kernel_rfl
                case p1_48 =>
                  go_simp
                  try rfl
                with_reducible refine wpStill_none (a' := ?a1_49) ?w1_49 ?p1_49 ?_
                case w1_49 => kernel_rfl
                case p1_49 =>
                  go_simp
                  try rfl
                with_reducible refine wpStill_none (a' := ?a1_50) ?w1_50 ?p1_50 ?_
                case w1_50 => kernel_rfl
                case p1_50 =>
                  go_simp
                  try rfl
                with_reducible refine wpStill_none (a' := ?a1_51) ?w1_51 ?p1_51 ?_
                case w1_51 => kernel_rfl
                case p1_51 =>
                  go_simp
                  try rfl
                with_reducible refine wpStill_none (a' := ?a1_52) ?w1_52 ?p1_52 ?_
                case w1_52 => kernel_rfl
                case p1_52 =>
                  go_simp
                  try rfl
                with_reducible refine wpStill_none (a' := ?a1_53) ?w1_53 ?p1_53 ?_
                case w1_53 => kernel_rfl
                case p1_53 =>
                  go_simp
                  try rfl
                with_reducible refine wpStill_none (a' := ?a1_54) ?w1_54 ?p1_54 ?_
                case w1_54 => kernel_rfl
                case p1_54 =>
                  go_simp
                  try rfl
                with_reducible refine wpStill_none (a' := ?a1_55) ?w1_55 ?p1_55 ?_
                case w1_55 => kernel_rfl
                case p1_55 =>
                  go_simp
                  try rfl
                with_reducible refine wpStill_none (a' := ?a1_56) ?w1_56 ?p1_56 ?_
                case w1_56 => kernel_rfl
                case p1_56 =>
                  go_simp
                  try rfl
                with_reducible refine wpStill_none (a' := ?a1_57) ?w1_57 ?p1_57 ?_
                case w1_57 => kernel_rfl
                case p1_57 =>
                  go_simp
                  try rfl
                with_reducible refine wpStill_none (a' := ?a1_58) ?w1_58 ?p1_58 ?_
                case w1_58 => kernel_rfl
                case p1_58 =>
                  go_simp
                  try rfl
                with_reducible refine wpStill_value (v := ?v1_59) (a' := ?a1_59) ?w1_59 ?x1_59 ?p1_59 ?_
                case w1_59 => kernel_rfl
                case x1_59 =>
                  go_simp
                  try rfl
                case p1_59 =>
                  go_simp
                  try rfl
                refine wpStill_nil ?_
                go_wp2_with fail
                go_meet
                refine ⟨?_, ?_⟩
                · simp [hck]
                · first | exact hB | exact Below.drew hB
              | true =>
                by_cases hg1 : xg = g
                · have tg : (xg == g) = true := by simpa using hg1
                  have tg2 : decide (xg = g) = true := by simpa using hg1
                  have tg3 : (xg != g) = false := by simpa using hg1
                  by_cases ho1 : xo = o
                  · have tq : (xo == o) = true := by simpa using ho1
                    have tq2 : decide (xo = o) = true := by simpa using ho1
                    have tq3 : (xo != o) = false := by simpa using ho1
                    by_cases hk0 : k = 0
                    · subst hk0
                      have tk : decide (0 < ((0 : Nat) : Int)) = false := by simp
                      have hck : ck = true := by rw [HCK.out, tg2, tq2, show decide ((0 : Nat) = 0) = true by simp]; rfl
                      clear hg1 ho1
                      have zs := blk_lt Bls.out
                      have xs0 := cellsAt Bls.out 0
                      have xs1 := cellsAt Bls.out 1
                      have xs2 := cellsAt Bls.out 2
                      have fs := frozAt Bls.out
                      simp at xs0 xs1 xs2
                      have zc := blk_lt Blc.out
                      have xc0 := cellsAt Blc.out 0
                      have xc1 := cellsAt Blc.out 1
                      have xc2 := cellsAt Blc.out 2
                      have xc3 := cellsAt Blc.out 3
                      have fc := frozAt Blc.out
                      simp at xc0 xc1 xc2 xc3
                      have hyu := yieldU
                      refine wp_region_head2 (by kernel_rfl) (by kernel_rfl) (by kernel_rfl) (by kernel_rfl) (by kernel_rfl) rfl rfl ?_
                      intro K1 hK1
                      go_simp
                      refine hK1 _ _ ?_
                      intro K2 hK2
                      go_simp
                      go_at_call 61
                      refine (HP.out _).mono ?_
                      rintro e w2 ⟨rfl, hb2⟩
                      have hB := (by first | exact hb2 | exact bUndrewC hb2 : Below W6.heap.size W6 w2)
                      have X1 := heap_below Bls.out hB
                      have X2 := heap_below Blc.out hB
                      have zs2 := blk_lt X1
                      have zc2 := blk_lt X2
                      have ys0 := cellsAt X1 0
                      have ys1 := cellsAt X1 1
                      have ys2 := cellsAt X1 2
                      have yc0 := cellsAt X2 0
                      have yc1 := cellsAt X2 1
                      have yc2 := cellsAt X2 2
                      have yc3 := cellsAt X2 3
                      simp at ys0 ys1 ys2 yc0 yc1 yc2 yc3
                      refine hK2 _ _ ?_
                      with_reducible refine wpStill_value (v := ?v2_29) (a' := ?a2_29) ?w2_29 ?x2_29 ?p2_29 ?_
                      case w2_29 => kernel_rfl
                      case x2_29 =>
                        go_simp
                        try rfl
                      case p2_29 =>
                        go_simp
                        try rfl
                      with_reducible refine wpStill_value (v := ?v2_30) (a' := ?a2_30) ?w2_30 ?x2_30 ?p2_30 ?_
                      case w2_30 => kernel_rfl
                      case x2_30 =>
                        go_simp
                        try rfl
                      case p2_30 =>
                        go_simp
                        try rfl
                      with_reducible refine wpStill_value (v := ?v2_31) (a' := ?a2_31) ?w2_31 ?x2_31 ?p2_31 ?_
                      case w2_31 => kernel_rfl
                      case x2_31 =>
                        go_simp
                        try rfl
                      case p2_31 =>
                        go_simp
                        try rfl
                      with_reducible refine wpStill_value (v := ?v2_32) (a' := ?a2_32) ?w2_32 ?x2_32 ?p2_32 ?_
                      case w2_32 => kernel_rfl
                      case x2_32 =>
                        go_simp
                        try rfl
                      case p2_32 =>
                        go_simp
                        try rfl
                      with_reducible refine wpStill_value (v := ?v2_33) (a' := ?a2_33) ?w2_33 ?x2_33 ?p2_33 ?_
                      case w2_33 => kernel_rfl
                      case x2_33 =>
                        go_simp
                        try rfl
                      case p2_33 =>
                        go_simp
                        try rfl
                      with_reducible refine wpStill_value (v := ?v2_34) (a' := ?a2_34) ?w2_34 ?x2_34 ?p2_34 ?_
                      case w2_34 => kernel_rfl
                      case x2_34 =>
                        go_simp
                        try rfl
                      case p2_34 =>
                        go_simp
                        try rfl
                      with_reducible refine wpStill_value (v := ?v2_35) (a' := ?a2_35) ?w2_35 ?x2_35 ?p2_35 ?_
                      case w2_35 => kernel_rfl
                      case x2_35 =>
                        go_simp
                        try rfl
                      case p2_35 =>
                        go_simp
                        try rfl
                      with_reducible refine wpStill_value (v := ?v2_36) (a' := ?a2_36) ?w2_36 ?x2_36 ?p2_36 ?_
                      case w2_36 => kernel_rfl
                      case x2_36 =>
                        go_simp
                        try rfl
                      case p2_36 =>
                        go_simp
                        try rfl
                      with_reducible refine wpStill_value (v := ?v2_37) (a' := ?a2_37) ?w2_37 ?x2_37 ?p2_37 ?_
                      case w2_37 => kernel_rfl
                      case x2_37 =>
                        go_simp
                        try rfl
                      case p2_37 =>
                        go_simp
                        try rfl
                      with_reducible refine wpStill_value (v := ?v2_38) (a' := ?a2_38) ?w2_38 ?x2_38 ?p2_38 ?_
                      case w2_38 => kernel_rfl
                      case x2_38 =>
                        go_simp
                        try rfl
                      case p2_38 =>
                        go_simp
                        try rfl
                      with_reducible refine wpStill_value (v := ?v2_39) (a' := ?a2_39) ?w2_39 ?x2_39 ?p2_39 ?_
                      case w2_39 => kernel_rfl
                      case x2_39 =>
                        go_simp
                        try rfl
                      case p2_39 =>
                        go_simp
                        try rfl
                      with_reducible refine wpStill_value (v := ?v2_40) (a' := ?a2_40) ?w2_40 ?x2_40 ?p2_40 ?_
                      case w2_40 => kernel_rfl
                      case x2_40 =>
                        go_simp
                        try rfl
                      case p2_40 =>
                        go_simp
                        try rfl
                      with_reducible refine wpStill_value (v := ?v2_41) (a' := ?a2_41) ?w2_41 ?x2_41 ?p2_41 ?_
                      case w2_41 => kernel_rfl
                      case x2_41 =>
                        go_simp
                        try rfl
                      case p2_41 =>
                        go_simp
                        try rfl
                      with_reducible refine wpStill_value (v := ?v2_42) (a' := ?a2_42) ?w2_42 ?x2_42 ?p2_42 ?_
                      case w2_42 => kernel_rfl
                      case x2_42 =>
                        go_simp
                        try rfl
                      case p2_42 =>
                        go_simp
                        try rfl
                      with_reducible refine wpStill_value (v := ?v2_43) (a' := ?a2_43) ?w2_43 ?x2_43 ?p2_43 ?_
                      case w2_43 => kernel_rfl
                      case x2_43 =>
                        go_simp
                        try rfl
                      case p2_43 =>
                        go_simp
                        try rfl
                      with_reducible refine wpStill_value (v := ?v2_44) (a' := ?a2_44) ?w2_44 ?x2_44 ?p2_44 ?_
                      case w2_44 => kernel_rfl
                      case x2_44 =>
                        go_simp
                        try rfl
                      case p2_44 =>
                        go_simp
                        try rfl
                      with_reducible refine wpStill_value (v := ?v2_45) (a' := ?a2_45) ?w2_45 ?x2_45 ?p2_45 ?_
                      case w2_45 => kernel_rfl
                      case x2_45 =>
                        go_simp
                        try rfl
                      case p2_45 =>
                        go_simp
                        try rfl
                      with_reducible refine wpStill_value (v := ?v2_46) (a' := ?a2_46) ?w2_46 ?x2_46 ?p2_46 ?_
                      case w2_46 => kernel_rfl
                      case x2_46 =>
                        go_simp
                        try rfl
                      case p2_46 =>
                        go_simp
                        try rfl
                      with_reducible refine wpStill_value (v := ?v2_47) (a' := ?a2_47) ?w2_47 ?x2_47 ?p2_47 ?_
                      case w2_47 => kernel_rfl
                      case x2_47 =>
                        go_simp
                        try rfl
                      case p2_47 =>
                        go_simp
                        try rfl
                      with_reducible refine wpStill_none (a' := ?a2_48) ?w2_48 ?p2_48 ?_
                      case w2_48 => kernel_rfl
                      case p2_48 =>
                        go_simp
                        try rfl
                      with_reducible refine wpStill_none (a' := ?a2_49) ?w2_49 ?p2_49 ?_
                      case w2_49 => kernel_rfl
                      case p2_49 =>
                        go_simp
                        try rfl
                      with_reducible refine wpStill_none (a' := ?a2_50) ?w2_50 ?p2_50 ?_
                      case w2_50 => kernel_rfl
                      case p2_50 =>
                        go_simp
                        try rfl
                      with_reducible refine wpStill_none (a' := ?a2_51) ?w2_51 ?p2_51 ?_
                      case w2_51 => kernel_rfl
                      case p2_51 =>
                        go_simp
                        try rfl
                      with_reducible refine wpStill_none (a' := ?a2_52) ?w2_52 ?p2_52 ?_
                      case w2_52 => kernel_rfl
                      case p2_52 =>
                        go_simp
                        try rfl
                      with_reducible refine wpStill_none (a' := ?a2_53) ?w2_53 ?p2_53 ?_
                      case w2_53 => kernel_rfl
                      case p2_53 =>
                        go_simp
                        try rfl
                      with_reducible refine wpStill_none (a' := ?a2_54) ?w2_54 ?p2_54 ?_
                      case w2_54 => kernel_rfl
                      case p2_54 =>
                        go_simp
                        try rfl
                      with_reducible refine wpStill_none (a' := ?a2_55) ?w2_55 ?p2_55 ?_
                      case w2_55 => kernel_rfl
                      case p2_55 =>
                        go_simp
                        try rfl
                      with_reducible refine wpStill_none (a' := ?a2_56) ?w2_56 ?p2_56 ?_
                      case w2_56 => kernel_rfl
                      case p2_56 =>
                        go_simp
                        try rfl
                      with_reducible refine wpStill_none (a' := ?a2_57) ?w2_57 ?p2_57 ?_
                      case w2_57 => kernel_rfl
                      case p2_57 =>
                        go_simp
                        try rfl
                      with_reducible refine wpStill_value (v := ?v2_58) (a' := ?a2_58) ?w2_58 ?x2_58 ?p2_58 ?_
                      case w2_58 => kernel_rfl
                      case x2_58 =>
                        go_simp
                        try rfl
                      case p2_58 =>
                        go_simp
                        try rfl
                      with_reducible refine wpStill_value (v := ?v2_59) (a' := ?a2_59) ?w2_59 ?x2_59 ?p2_59 ?_
                      case w2_59 => kernel_rfl
                      case x2_59 =>
                        go_simp
                        try rfl
                      case p2_59 =>
                        go_simp
                        try rfl
                      refine wpStill_nil ?_
                      go_wp2_with fail
                      go_meet
                      refine ⟨?_, ?_⟩
                      · simp [hck]
                      · first | exact hB | exact Below.drew hB
                    · have tk : decide (0 < (k : Int)) = true := by simp; omega
                      have tkn : decide (0 < k) = true := by simp; omega
                      have hk1 : (1 : Int) ≤ (k : Int) := by omega
                      have hk1n : 0 < k := by omega
                      obtain ⟨y, hy⟩ : ∃ y, l[k - 1]? = some y := ⟨_, List.getElem?_eq_getElem (by rw [Hm.out]; omega)⟩
                      have hyb := ckAt_get hy
                      obtain ⟨b2, o2, c4, e', -, hb2', hX⟩ := (HH.out.below BB9.out).at_ hy
                      injection e' with e1 e2 e3
                      clear e2
                      injection e1 with e1
                      injection e1 with e1 e1b
                      subst e1 e1b e3
                      have kp := hX 1 _ rfl
                      clear hX hy
                      rw [hyb] at HCK
                      obtain ⟨yg, yn, yo, yb⟩ := y
                      simp only at kp HCK
                      clear hyb
                      have hkm : ((k : Int) - 1).toNat = k - 1 := by omega
                      have hkm2 : (0 : Int) ≤ (k : Int) - 1 := by omega
                      have hkm3 : (k : Int) - 1 < (m : Int) := by omega
                      have hw1 : IntKind.i64.wrap ((k : Int) - 1) = (k : Int) - 1 := by rw [IntKind.wrap_i64]; omega
                      have HPN := Lib.hid (fun (W' : World) (hB : Below W6.heap.size W6 W') => (hB.cell (p := ⟨b1, o1 + (k - 1) * 4 + 1, none⟩) hb2').trans kp)
                      by_cases hno : yn < xn
                      · have tn : decide (xn ≤ yn) = false := by simp; omega
                        have hck : ck = true := by rw [HCK.out, tg2, tq2, show decide (yn < xn) = true by simpa using hno, Bool.or_true]; rfl
                        clear hg1 ho1 hno
                        have zs := blk_lt Bls.out
                        have xs0 := cellsAt Bls.out 0
                        have xs1 := cellsAt Bls.out 1
                        have xs2 := cellsAt Bls.out 2
                        have fs := frozAt Bls.out
                        simp at xs0 xs1 xs2
                        have zc := blk_lt Blc.out
                        have xc0 := cellsAt Blc.out 0
                        have xc1 := cellsAt Blc.out 1
                        have xc2 := cellsAt Blc.out 2
                        have xc3 := cellsAt Blc.out 3
                        have fc := frozAt Blc.out
                        simp at xc0 xc1 xc2 xc3
                        have hyu := yieldU
                        refine wp_region_head2 (by kernel_rfl) (by kernel_rfl) (by kernel_rfl) (by kernel_rfl) (by kernel_rfl) rfl rfl ?_
                        intro K1 hK1
                        go_simp
                        refine hK1 _ _ ?_
                        intro K2 hK2
                        go_simp
                        go_at_call 61
                        refine (HP.out _).mono ?_
                        rintro e w2 ⟨rfl, hb2⟩
                        have hB := (by first | exact hb2 | exact bUndrewC hb2 : Below W6.heap.size W6 w2)
                        have X1 := heap_below Bls.out hB
                        have X2 := heap_below Blc.out hB
                        have zs2 := blk_lt X1
                        have zc2 := blk_lt X2
                        have ys0 := cellsAt X1 0
                        have ys1 := cellsAt X1 1
                        have ys2 := cellsAt X1 2
                        have yc0 := cellsAt X2 0
                        have yc1 := cellsAt X2 1
                        have yc2 := cellsAt X2 2
                        have yc3 := cellsAt X2 3
                        simp at ys0 ys1 ys2 yc0 yc1 yc2 yc3
                        have yp := HPN.out w2 hB
                        refine hK2 _ _ ?_
                        with_reducible refine wpStill_value (v := ?v3_29) (a' := ?a3_29) ?w3_29 ?x3_29 ?p3_29 ?_
                        case w3_29 => kernel_rfl
                        case x3_29 =>
                          go_simp
                          try rfl
                        case p3_29 =>
                          go_simp
                          try rfl
                        with_reducible refine wpStill_value (v := ?v3_30) (a' := ?a3_30) ?w3_30 ?x3_30 ?p3_30 ?_
                        case w3_30 => kernel_rfl
                        case x3_30 =>
                          go_simp
                          try rfl
                        case p3_30 =>
                          go_simp
                          try rfl
                        with_reducible refine wpStill_value (v := ?v3_31) (a' := ?a3_31) ?w3_31 ?x3_31 ?p3_31 ?_
                        case w3_31 => kernel_rfl
                        case x3_31 =>
                          go_simp
                          try rfl
                        case p3_31 =>
                          go_simp
                          try rfl
                        with_reducible refine wpStill_value (v := ?v3_32) (a' := ?a3_32) ?w3_32 ?x3_32 ?p3_32 ?_
                        case w3_32 => kernel_rfl
                        case x3_32 =>
                          go_simp
                          try rfl
                        case p3_32 =>
                          go_simp
                          try rfl
                        with_reducible refine wpStill_value (v := ?v3_33) (a' := ?a3_33) ?w3_33 ?x3_33 ?p3_33 ?_
                        case w3_33 => kernel_rfl
                        case x3_33 =>
                          go_simp
                          try rfl
                        case p3_33 =>
                          go_simp
                          try rfl
                        with_reducible refine wpStill_value (v := ?v3_34) (a' := ?a3_34) ?w3_34 ?x3_34 ?p3_34 ?_
                        case w3_34 => kernel_rfl
                        case x3_34 =>
                          go_simp
                          try rfl
                        case p3_34 =>
                          go_simp
                          try rfl
                        with_reducible refine wpStill_value (v := ?v3_35) (a' := ?a3_35) ?w3_35 ?x3_35 ?p3_35 ?_
                        case w3_35 => kernel_rfl
                        case x3_35 =>
                          go_simp
                          try rfl
                        case p3_35 =>
                          go_simp
                          try rfl
                        with_reducible refine wpStill_value (v := ?v3_36) (a' := ?a3_36) ?w3_36 ?x3_36 ?p3_36 ?_
                        case w3_36 => kernel_rfl
                        case x3_36 =>
                          go_simp
                          try rfl
                        case p3_36 =>
                          go_simp
                          try rfl
                        with_reducible refine wpStill_value (v := ?v3_37) (a' := ?a3_37) ?w3_37 ?x3_37 ?p3_37 ?_
                        case w3_37 => kernel_rfl
                        case x3_37 =>
                          go_simp
                          try rfl
                        case p3_37 =>
                          go_simp
                          try rfl
                        with_reducible refine wpStill_value (v := ?v3_38) (a' := ?a3_38) ?w3_38 ?x3_38 ?p3_38 ?_
                        case w3_38 => kernel_rfl
                        case x3_38 =>
                          go_simp
                          try rfl
                        case p3_38 =>
                          go_simp
                          try rfl
                        with_reducible refine wpStill_value (v := ?v3_39) (a' := ?a3_39) ?w3_39 ?x3_39 ?p3_39 ?_
                        case w3_39 => kernel_rfl
                        case x3_39 =>
                          go_simp
                          try rfl
                        case p3_39 =>
                          go_simp
                          try rfl
                        with_reducible refine wpStill_value (v := ?v3_40) (a' := ?a3_40) ?w3_40 ?x3_40 ?p3_40 ?_
                        case w3_40 => kernel_rfl
                        case x3_40 =>
                          go_simp
                          try rfl
                        case p3_40 =>
                          go_simp
                          try rfl
                        with_reducible refine wpStill_value (v := ?v3_41) (a' := ?a3_41) ?w3_41 ?x3_41 ?p3_41 ?_
                        case w3_41 => kernel_rfl
                        case x3_41 =>
                          go_simp
                          try rfl
                        case p3_41 =>
                          go_simp
                          try rfl
                        with_reducible refine wpStill_value (v := ?v3_42) (a' := ?a3_42) ?w3_42 ?x3_42 ?p3_42 ?_
                        case w3_42 => kernel_rfl
                        case x3_42 =>
                          go_simp
                          try rfl
                        case p3_42 =>
                          go_simp
                          try rfl
                        with_reducible refine wpStill_value (v := ?v3_43) (a' := ?a3_43) ?w3_43 ?x3_43 ?p3_43 ?_
                        case w3_43 => kernel_rfl
                        case x3_43 =>
                          go_simp
                          try rfl
                        case p3_43 =>
                          go_simp
                          try rfl
                        with_reducible refine wpStill_value (v := ?v3_44) (a' := ?a3_44) ?w3_44 ?x3_44 ?p3_44 ?_
                        case w3_44 => kernel_rfl
                        case x3_44 =>
                          go_simp
                          try rfl
                        case p3_44 =>
                          go_simp
                          try rfl
                        with_reducible refine wpStill_value (v := ?v3_45) (a' := ?a3_45) ?w3_45 ?x3_45 ?p3_45 ?_
                        case w3_45 => kernel_rfl
                        case x3_45 =>
                          go_simp
                          try rfl
                        case p3_45 =>
                          go_simp
                          try rfl
                        with_reducible refine wpStill_value (v := ?v3_46) (a' := ?a3_46) ?w3_46 ?x3_46 ?p3_46 ?_
                        case w3_46 => kernel_rfl
                        case x3_46 =>
                          go_simp
                          try rfl
                        case p3_46 =>
                          go_simp
                          try rfl
                        with_reducible refine wpStill_value (v := ?v3_47) (a' := ?a3_47) ?w3_47 ?x3_47 ?p3_47 ?_
                        case w3_47 => kernel_rfl
                        case x3_47 =>
                          go_simp
                          try rfl
                        case p3_47 =>
                          go_simp
                          try rfl
                        with_reducible refine wpStill_value (v := ?v3_48) (a' := ?a3_48) ?w3_48 ?x3_48 ?p3_48 ?_
                        case w3_48 => kernel_rfl
                        case x3_48 =>
                          go_simp
                          try rfl
                        case p3_48 =>
                          go_simp
                          try rfl
                        with_reducible refine wpStill_value (v := ?v3_49) (a' := ?a3_49) ?w3_49 ?x3_49 ?p3_49 ?_
                        case w3_49 => kernel_rfl
                        case x3_49 =>
                          go_simp
                          try rfl
                        case p3_49 =>
                          go_simp
                          try rfl
                        with_reducible refine wpStill_value (v := ?v3_50) (a' := ?a3_50) ?w3_50 ?x3_50 ?p3_50 ?_
                        case w3_50 => kernel_rfl
                        case x3_50 =>
                          go_simp
                          try rfl
                        case p3_50 =>
                          go_simp
                          try rfl
                        with_reducible refine wpStill_value (v := ?v3_51) (a' := ?a3_51) ?w3_51 ?x3_51 ?p3_51 ?_
                        case w3_51 => kernel_rfl
                        case x3_51 =>
                          go_simp
                          try rfl
                        case p3_51 =>
                          go_simp
                          try rfl
                        with_reducible refine wpStill_value (v := ?v3_52) (a' := ?a3_52) ?w3_52 ?x3_52 ?p3_52 ?_
                        case w3_52 => kernel_rfl
                        case x3_52 =>
                          go_simp
                          try rfl
                        case p3_52 =>
                          go_simp
                          try rfl
                        with_reducible refine wpStill_value (v := ?v3_53) (a' := ?a3_53) ?w3_53 ?x3_53 ?p3_53 ?_
                        case w3_53 => kernel_rfl
                        case x3_53 =>
                          go_simp
                          try rfl
                        case p3_53 =>
                          go_simp
                          try rfl
                        with_reducible refine wpStill_value (v := ?v3_54) (a' := ?a3_54) ?w3_54 ?x3_54 ?p3_54 ?_
                        case w3_54 => kernel_rfl
                        case x3_54 =>
                          go_simp
                          try rfl
                        case p3_54 =>
                          go_simp
                          try rfl
                        with_reducible refine wpStill_value (v := ?v3_55) (a' := ?a3_55) ?w3_55 ?x3_55 ?p3_55 ?_
                        case w3_55 => kernel_rfl
                        case x3_55 =>
                          go_simp
                          try rfl
                        case p3_55 =>
                          go_simp
                          try rfl
                        with_reducible refine wpStill_value (v := ?v3_56) (a' := ?a3_56) ?w3_56 ?x3_56 ?p3_56 ?_
                        case w3_56 => kernel_rfl
                        case x3_56 =>
                          go_simp
                          try rfl
                        case p3_56 =>
                          go_simp
                          try rfl
                        with_reducible refine wpStill_value (v := ?v3_57) (a' := ?a3_57) ?w3_57 ?x3_57 ?p3_57 ?_
                        case w3_57 => kernel_rfl
                        case x3_57 =>
                          go_simp
                          try rfl
                        case p3_57 =>
                          go_simp
                          try rfl
                        with_reducible refine wpStill_value (v := ?v3_58) (a' := ?a3_58) ?w3_58 ?x3_58 ?p3_58 ?_
                        case w3_58 => kernel_rfl
                        case x3_58 =>
                          go_simp
                          try rfl
                        case p3_58 =>
                          go_simp
                          try rfl
                        with_reducible refine wpStill_value (v := ?v3_59) (a' := ?a3_59) ?w3_59 ?x3_59 ?p3_59 ?_
                        case w3_59 => kernel_rfl
                        case x3_59 =>
                          go_simp
                          try rfl
                        case p3_59 =>
                          go_simp
                          try rfl
                        refine wpStill_nil ?_
                        go_wp2_with fail
                        go_meet
                        refine ⟨?_, ?_⟩
                        · simp [hck]
                        · first | exact hB | exact Below.drew hB
                      · have tn : decide (xn ≤ yn) = true := by simp; omega
                        have hck : ck = false := by rw [HCK.out, tg2, tq2, show decide (yn < xn) = false by simpa using hno, show decide (k = 0) = false by simpa using hk0]; rfl
                        clear hg1 ho1 hno
                        have zs := blk_lt Bls.out
                        have xs0 := cellsAt Bls.out 0
                        have xs1 := cellsAt Bls.out 1
                        have xs2 := cellsAt Bls.out 2
                        have fs := frozAt Bls.out
                        simp at xs0 xs1 xs2
                        have zc := blk_lt Blc.out
                        have xc0 := cellsAt Blc.out 0
                        have xc1 := cellsAt Blc.out 1
                        have xc2 := cellsAt Blc.out 2
                        have xc3 := cellsAt Blc.out 3
                        have fc := frozAt Blc.out
                        simp at xc0 xc1 xc2 xc3
                        have hyu := yieldU
                        refine wp_region_head2 (by kernel_rfl) (by kernel_rfl) (by kernel_rfl) (by kernel_rfl) (by kernel_rfl) rfl rfl ?_
                        intro K1 hK1
                        go_simp
                        refine hK1 _ _ ?_
                        intro K2 hK2
                        go_simp
                        go_at_call 61
                        refine (HP.out _).mono ?_
                        rintro e w2 ⟨rfl, hb2⟩
                        have hB := (by first | exact hb2 | exact bUndrewC hb2 : Below W6.heap.size W6 w2)
                        have X1 := heap_below Bls.out hB
                        have X2 := heap_below Blc.out hB
                        have zs2 := blk_lt X1
                        have zc2 := blk_lt X2
                        have ys0 := cellsAt X1 0
                        have ys1 := cellsAt X1 1
                        have ys2 := cellsAt X1 2
                        have yc0 := cellsAt X2 0
                        have yc1 := cellsAt X2 1
                        have yc2 := cellsAt X2 2
                        have yc3 := cellsAt X2 3
                        simp at ys0 ys1 ys2 yc0 yc1 yc2 yc3
                        have yp := HPN.out w2 hB
                        refine hK2 _ _ ?_
                        with_reducible refine wpStill_value (v := ?v4_29) (a' := ?a4_29) ?w4_29 ?x4_29 ?p4_29 ?_
                        case w4_29 => kernel_rfl
                        case x4_29 =>
                          go_simp
                          try rfl
                        case p4_29 =>
                          go_simp
                          try rfl
                        with_reducible refine wpStill_value (v := ?v4_30) (a' := ?a4_30) ?w4_30 ?x4_30 ?p4_30 ?_
                        case w4_30 => kernel_rfl
                        case x4_30 =>
                          go_simp
                          try rfl
                        case p4_30 =>
                          go_simp
                          try rfl
                        with_reducible refine wpStill_value (v := ?v4_31) (a' := ?a4_31) ?w4_31 ?x4_31 ?p4_31 ?_
                        case w4_31 => kernel_rfl
                        case x4_31 =>
                          go_simp
                          try rfl
                        case p4_31 =>
                          go_simp
                          try rfl
                        with_reducible refine wpStill_value (v := ?v4_32) (a' := ?a4_32) ?w4_32 ?x4_32 ?p4_32 ?_
                        case w4_32 => kernel_rfl
                        case x4_32 =>
                          go_simp
                          try rfl
                        case p4_32 =>
                          go_simp
                          try rfl
                        with_reducible refine wpStill_value (v := ?v4_33) (a' := ?a4_33) ?w4_33 ?x4_33 ?p4_33 ?_
                        case w4_33 => kernel_rfl
                        case x4_33 =>
                          go_simp
                          try rfl
                        case p4_33 =>
                          go_simp
                          try rfl
                        with_reducible refine wpStill_value (v := ?v4_34) (a' := ?a4_34) ?w4_34 ?x4_34 ?p4_34 ?_
                        case w4_34 => kernel_rfl
                        case x4_34 =>
                          go_simp
                          try rfl
                        case p4_34 =>
                          go_simp
                          try rfl
                        with_reducible refine wpStill_value (v := ?v4_35) (a' := ?a4_35) ?w4_35 ?x4_35 ?p4_35 ?_
                        case w4_35 => kernel_rfl
                        case x4_35 =>
                          go_simp
                          try rfl
                        case p4_35 =>
                          go_simp
                          try rfl
                        with_reducible refine wpStill_value (v := ?v4_36) (a' := ?a4_36) ?w4_36 ?x4_36 ?p4_36 ?_
                        case w4_36 => kernel_rfl
                        case x4_36 =>
                          go_simp
                          try rfl
                        case p4_36 =>
                          go_simp
                          try rfl
                        with_reducible refine wpStill_value (v := ?v4_37) (a' := ?a4_37) ?w4_37 ?x4_37 ?p4_37 ?_
                        case w4_37 => kernel_rfl
                        case x4_37 =>
                          go_simp
                          try rfl
                        case p4_37 =>
                          go_simp
                          try rfl
                        with_reducible refine wpStill_value (v := ?v4_38) (a' := ?a4_38) ?w4_38 ?x4_38 ?p4_38 ?_
                        case w4_38 => kernel_rfl
                        case x4_38 =>
                          go_simp
                          try rfl
                        case p4_38 =>
                          go_simp
                          try rfl
                        with_reducible refine wpStill_value (v := ?v4_39) (a' := ?a4_39) ?w4_39 ?x4_39 ?p4_39 ?_
                        case w4_39 => kernel_rfl
                        case x4_39 =>
                          go_simp
                          try rfl
                        case p4_39 =>
                          go_simp
                          try rfl
                        with_reducible refine wpStill_value (v := ?v4_40) (a' := ?a4_40) ?w4_40 ?x4_40 ?p4_40 ?_
                        case w4_40 => kernel_rfl
                        case x4_40 =>
                          go_simp
                          try rfl
                        case p4_40 =>
                          go_simp
                          try rfl
                        with_reducible refine wpStill_value (v := ?v4_41) (a' := ?a4_41) ?w4_41 ?x4_41 ?p4_41 ?_
                        case w4_41 => kernel_rfl
                        case x4_41 =>
                          go_simp
                          try rfl
                        case p4_41 =>
                          go_simp
                          try rfl
                        with_reducible refine wpStill_value (v := ?v4_42) (a' := ?a4_42) ?w4_42 ?x4_42 ?p4_42 ?_
                        case w4_42 => kernel_rfl
                        case x4_42 =>
                          go_simp
                          try rfl
                        case p4_42 =>
                          go_simp
                          try rfl
                        with_reducible refine wpStill_value (v := ?v4_43) (a' := ?a4_43) ?w4_43 ?x4_43 ?p4_43 ?_
                        case w4_43 => kernel_rfl
                        case x4_43 =>
                          go_simp
                          try rfl
                        case p4_43 =>
                          go_simp
                          try rfl
                        with_reducible refine wpStill_value (v := ?v4_44) (a' := ?a4_44) ?w4_44 ?x4_44 ?p4_44 ?_
                        case w4_44 => kernel_rfl
                        case x4_44 =>
                          go_simp
                          try rfl
                        case p4_44 =>
                          go_simp
                          try rfl
                        with_reducible refine wpStill_value (v := ?v4_45) (a' := ?a4_45) ?w4_45 ?x4_45 ?p4_45 ?_
                        case w4_45 => kernel_rfl
                        case x4_45 =>
                          go_simp
                          try rfl
                        case p4_45 =>
                          go_simp
                          try rfl
                        with_reducible refine wpStill_value (v := ?v4_46) (a' := ?a4_46) ?w4_46 ?x4_46 ?p4_46 ?_
                        case w4_46 => kernel_rfl
                        case x4_46 =>
                          go_simp
                          try rfl
                        case p4_46 =>
                          go_simp
                          try rfl
                        with_reducible refine wpStill_value (v := ?v4_47) (a' := ?a4_47) ?w4_47 ?x4_47 ?p4_47 ?_
                        case w4_47 => kernel_rfl
                        case x4_47 =>
                          go_simp
                          try rfl
                        case p4_47 =>
                          go_simp
                          try rfl
                        with_reducible refine wpStill_value (v := ?v4_48) (a' := ?a4_48) ?w4_48 ?x4_48 ?p4_48 ?_
                        case w4_48 => kernel_rfl
                        case x4_48 =>
                          go_simp
                          try rfl
                        case p4_48 =>
                          go_simp
                          try rfl
                        with_reducible refine wpStill_value (v := ?v4_49) (a' := ?a4_49) ?w4_49 ?x4_49 ?p4_49 ?_
                        case w4_49 => kernel_rfl
                        case x4_49 =>
                          go_simp
                          try rfl
                        case p4_49 =>
                          go_simp
                          try rfl
                        with_reducible refine wpStill_value (v := ?v4_50) (a' := ?a4_50) ?w4_50 ?x4_50 ?p4_50 ?_
                        case w4_50 => kernel_rfl
                        case x4_50 =>
                          go_simp
                          try rfl
                        case p4_50 =>
                          go_simp
                          try rfl
                        with_reducible refine wpStill_value (v := ?v4_51) (a' := ?a4_51) ?w4_51 ?x4_51 ?p4_51 ?_
                        case w4_51 => kernel_rfl
                        case x4_51 =>
                          go_simp
                          try rfl
                        case p4_51 =>
                          go_simp
                          try rfl
                        with_reducible refine wpStill_value (v := ?v4_52) (a' := ?a4_52) ?w4_52 ?x4_52 ?p4_52 ?_
                        case w4_52 => kernel_rfl
                        case x4_52 =>
                          go_simp
                          try rfl
                        case p4_52 =>
                          go_simp
                          try rfl
                        with_reducible refine wpStill_value (v := ?v4_53) (a' := ?a4_53) ?w4_53 ?x4_53 ?p4_53 ?_
                        case w4_53 => kernel_rfl
                        case x4_53 =>
                          go_simp
                          try rfl
                        case p4_53 =>
                          go_simp
                          try rfl
                        with_reducible refine wpStill_value (v := ?v4_54) (a' := ?a4_54) ?w4_54 ?x4_54 ?p4_54 ?_
                        case w4_54 => kernel_rfl
                        case x4_54 =>
                          go_simp
                          try rfl
                        case p4_54 =>
                          go_simp
                          try rfl
                        with_reducible refine wpStill_value (v := ?v4_55) (a' := ?a4_55) ?w4_55 ?x4_55 ?p4_55 ?_
                        case w4_55 => kernel_rfl
                        case x4_55 =>
                          go_simp
                          try rfl
                        case p4_55 =>
                          go_simp
                          try rfl
                        with_reducible refine wpStill_value (v := ?v4_56) (a' := ?a4_56) ?w4_56 ?x4_56 ?p4_56 ?_
                        case w4_56 => kernel_rfl
                        case x4_56 =>
                          go_simp
                          try rfl
                        case p4_56 =>
                          go_simp
                          try rfl
                        with_reducible refine wpStill_value (v := ?v4_57) (a' := ?a4_57) ?w4_57 ?x4_57 ?p4_57 ?_
                        case w4_57 => kernel_rfl
                        case x4_57 =>
                          go_simp
                          try rfl
                        case p4_57 =>
                          go_simp
                          try rfl
                        with_reducible refine wpStill_value (v := ?v4_58) (a' := ?a4_58) ?w4_58 ?x4_58 ?p4_58 ?_
                        case w4_58 => kernel_rfl
                        case x4_58 =>
                          go_simp
                          try rfl
                        case p4_58 =>
                          go_simp
                          try rfl
                        with_reducible refine wpStill_value (v := ?v4_59) (a' := ?a4_59) ?w4_59 ?x4_59 ?p4_59 ?_
                        case w4_59 => kernel_rfl
                        case x4_59 =>
                          go_simp
                          try rfl
                        case p4_59 =>
                          go_simp
                          try rfl
                        refine wpStill_nil ?_
                        go_wp2_with fail
                        go_meet
                        refine ⟨?_, ?_⟩
                        · simp [hck]
                        · first | exact hB | exact Below.drew hB
                  · have tq : (xo == o) = false := by simpa using ho1
                    have tq2 : decide (xo = o) = false := by simpa using ho1
                    have tq3 : (xo != o) = true := by simpa using ho1
                    have hck : ck = false := by rw [HCK.out, tg2, tq2]; rfl
                    clear hg1
                    have zs := blk_lt Bls.out
                    have xs0 := cellsAt Bls.out 0
                    have xs1 := cellsAt Bls.out 1
                    have xs2 := cellsAt Bls.out 2
                    have fs := frozAt Bls.out
                    simp at xs0 xs1 xs2
                    have zc := blk_lt Blc.out
                    have xc0 := cellsAt Blc.out 0
                    have xc1 := cellsAt Blc.out 1
                    have xc2 := cellsAt Blc.out 2
                    have xc3 := cellsAt Blc.out 3
                    have fc := frozAt Blc.out
                    simp at xc0 xc1 xc2 xc3
                    have hyu := yieldU
                    refine wp_region_head2 (by kernel_rfl) (by kernel_rfl) (by kernel_rfl) (by kernel_rfl) (by kernel_rfl) rfl rfl ?_
                    intro K1 hK1
                    go_simp
                    refine hK1 _ _ ?_
                    intro K2 hK2
                    go_simp
                    go_at_call 61
                    refine (HP.out _).mono ?_
                    rintro e w2 ⟨rfl, hb2⟩
                    have hB := (by first | exact hb2 | exact bUndrewC hb2 : Below W6.heap.size W6 w2)
                    have X1 := heap_below Bls.out hB
                    have X2 := heap_below Blc.out hB
                    have zs2 := blk_lt X1
                    have zc2 := blk_lt X2
                    have ys0 := cellsAt X1 0
                    have ys1 := cellsAt X1 1
                    have ys2 := cellsAt X1 2
                    have yc0 := cellsAt X2 0
                    have yc1 := cellsAt X2 1
                    have yc2 := cellsAt X2 2
                    have yc3 := cellsAt X2 3
                    simp at ys0 ys1 ys2 yc0 yc1 yc2 yc3
                    refine hK2 _ _ ?_
                    with_reducible refine wpStill_value (v := ?v5_29) (a' := ?a5_29) ?w5_29 ?x5_29 ?p5_29 ?_
                    case w5_29 => kernel_rfl
                    case x5_29 =>
                      go_simp
                      try rfl
                    case p5_29 =>
                      go_simp
                      try rfl
                    with_reducible refine wpStill_value (v := ?v5_30) (a' := ?a5_30) ?w5_30 ?x5_30 ?p5_30 ?_
                    case w5_30 => kernel_rfl
                    case x5_30 =>
                      go_simp
                      try rfl
                    case p5_30 =>
                      go_simp
                      try rfl
                    with_reducible refine wpStill_value (v := ?v5_31) (a' := ?a5_31) ?w5_31 ?x5_31 ?p5_31 ?_
                    case w5_31 => kernel_rfl
                    case x5_31 =>
                      go_simp
                      try rfl
                    case p5_31 =>
                      go_simp
                      try rfl
                    with_reducible refine wpStill_value (v := ?v5_32) (a' := ?a5_32) ?w5_32 ?x5_32 ?p5_32 ?_
                    case w5_32 => kernel_rfl
                    case x5_32 =>
                      go_simp
                      try rfl
                    case p5_32 =>
                      go_simp
                      try rfl
                    with_reducible refine wpStill_value (v := ?v5_33) (a' := ?a5_33) ?w5_33 ?x5_33 ?p5_33 ?_
                    case w5_33 => kernel_rfl
                    case x5_33 =>
                      go_simp
                      try rfl
                    case p5_33 =>
                      go_simp
                      try rfl
                    with_reducible refine wpStill_value (v := ?v5_34) (a' := ?a5_34) ?w5_34 ?x5_34 ?p5_34 ?_
                    case w5_34 => kernel_rfl
                    case x5_34 =>
                      go_simp
                      try rfl
                    case p5_34 =>
                      go_simp
                      try rfl
                    with_reducible refine wpStill_value (v := ?v5_35) (a' := ?a5_35) ?w5_35 ?x5_35 ?p5_35 ?_
                    case w5_35 => kernel_rfl
                    case x5_35 =>
                      go_simp
                      try rfl
                    case p5_35 =>
                      go_simp
                      try rfl
                    with_reducible refine wpStill_value (v := ?v5_36) (a' := ?a5_36) ?w5_36 ?x5_36 ?p5_36 ?_
                    case w5_36 => kernel_rfl
                    case x5_36 =>
                      go_simp
                      try rfl
                    case p5_36 =>
                      go_simp
                      try rfl
                    with_reducible refine wpStill_value (v := ?v5_37) (a' := ?a5_37) ?w5_37 ?x5_37 ?p5_37 ?_
                    case w5_37 => kernel_rfl
                    case x5_37 =>
                      go_simp
                      try rfl
                    case p5_37 =>
                      go_simp
                      try rfl
                    with_reducible refine wpStill_value (v := ?v5_38) (a' := ?a5_38) ?w5_38 ?x5_38 ?p5_38 ?_
                    case w5_38 => kernel_rfl
                    case x5_38 =>
                      go_simp
                      try rfl
                    case p5_38 =>
                      go_simp
                      try rfl
                    with_reducible refine wpStill_value (v := ?v5_39) (a' := ?a5_39) ?w5_39 ?x5_39 ?p5_39 ?_
                    case w5_39 => kernel_rfl
                    case x5_39 =>
                      go_simp
                      try rfl
                    case p5_39 =>
                      go_simp
                      try rfl
                    with_reducible refine wpStill_value (v := ?v5_40) (a' := ?a5_40) ?w5_40 ?x5_40 ?p5_40 ?_
                    case w5_40 => kernel_rfl
                    case x5_40 =>
                      go_simp
                      try rfl
                    case p5_40 =>
                      go_simp
                      try rfl
                    with_reducible refine wpStill_value (v := ?v5_41) (a' := ?a5_41) ?w5_41 ?x5_41 ?p5_41 ?_
                    case w5_41 => kernel_rfl
                    case x5_41 =>
                      go_simp
                      try rfl
                    case p5_41 =>
                      go_simp
                      try rfl
                    with_reducible refine wpStill_value (v := ?v5_42) (a' := ?a5_42) ?w5_42 ?x5_42 ?p5_42 ?_
                    case w5_42 => kernel_rfl
                    case x5_42 =>
                      go_simp
                      try rfl
                    case p5_42 =>
                      go_simp
                      try rfl
                    with_reducible refine wpStill_value (v := ?v5_43) (a' := ?a5_43) ?w5_43 ?x5_43 ?p5_43 ?_
                    case w5_43 => kernel_rfl
                    case x5_43 =>
                      go_simp
                      try rfl
                    case p5_43 =>
                      go_simp
                      try rfl
                    with_reducible refine wpStill_value (v := ?v5_44) (a' := ?a5_44) ?w5_44 ?x5_44 ?p5_44 ?_
                    case w5_44 => kernel_rfl
                    case x5_44 =>
                      go_simp
                      try rfl
                    case p5_44 =>
                      go_simp
                      try rfl
                    with_reducible refine wpStill_none (a' := ?a5_45) ?w5_45 ?p5_45 ?_
                    case w5_45 => kernel_rfl
                    case p5_45 =>
                      go_simp
                      try rfl
                    with_reducible refine wpStill_none (a' := ?a5_46) ?w5_46 ?p5_46 ?_
                    case w5_46 => kernel_rfl
                    case p5_46 =>
                      go_simp
                      try rfl
                    with_reducible refine wpStill_none (a' := ?a5_47) ?w5_47 ?p5_47 ?_
                    case w5_47 => kernel_rfl
                    case p5_47 =>
                      go_simp
                      try rfl
                    with_reducible refine wpStill_none (a' := ?a5_48) ?w5_48 ?p5_48 ?_
                    case w5_48 => kernel_rfl
                    case p5_48 =>
                      go_simp
                      try rfl
                    with_reducible refine wpStill_none (a' := ?a5_49) ?w5_49 ?p5_49 ?_
                    case w5_49 => kernel_rfl
                    case p5_49 =>
                      go_simp
                      try rfl
                    with_reducible refine wpStill_none (a' := ?a5_50) ?w5_50 ?p5_50 ?_
                    case w5_50 => kernel_rfl
                    case p5_50 =>
                      go_simp
                      try rfl
                    with_reducible refine wpStill_none (a' := ?a5_51) ?w5_51 ?p5_51 ?_
                    case w5_51 => kernel_rfl
                    case p5_51 =>
                      go_simp
                      try rfl
                    with_reducible refine wpStill_none (a' := ?a5_52) ?w5_52 ?p5_52 ?_
                    case w5_52 => kernel_rfl
                    case p5_52 =>
                      go_simp
                      try rfl
                    with_reducible refine wpStill_none (a' := ?a5_53) ?w5_53 ?p5_53 ?_
                    case w5_53 => kernel_rfl
                    case p5_53 =>
                      go_simp
                      try rfl
                    with_reducible refine wpStill_none (a' := ?a5_54) ?w5_54 ?p5_54 ?_
                    case w5_54 => kernel_rfl
                    case p5_54 =>
                      go_simp
                      try rfl
                    with_reducible refine wpStill_none (a' := ?a5_55) ?w5_55 ?p5_55 ?_
                    case w5_55 => kernel_rfl
                    case p5_55 =>
                      go_simp
                      try rfl
                    with_reducible refine wpStill_none (a' := ?a5_56) ?w5_56 ?p5_56 ?_
                    case w5_56 => kernel_rfl
                    case p5_56 =>
                      go_simp
                      try rfl
                    with_reducible refine wpStill_none (a' := ?a5_57) ?w5_57 ?p5_57 ?_
                    case w5_57 => kernel_rfl
                    case p5_57 =>
                      go_simp
                      try rfl
                    with_reducible refine wpStill_none (a' := ?a5_58) ?w5_58 ?p5_58 ?_
                    case w5_58 => kernel_rfl
                    case p5_58 =>
                      go_simp
                      try rfl
                    with_reducible refine wpStill_value (v := ?v5_59) (a' := ?a5_59) ?w5_59 ?x5_59 ?p5_59 ?_
                    case w5_59 => kernel_rfl
                    case x5_59 =>
                      go_simp
                      try rfl
                    case p5_59 =>
                      go_simp
                      try rfl
                    refine wpStill_nil ?_
                    go_wp2_with fail
                    go_meet
                    refine ⟨?_, ?_⟩
                    · simp [hck]
                    · first | exact hB | exact Below.drew hB
                · have tg : (xg == g) = false := by simpa using hg1
                  have tg2 : decide (xg = g) = false := by simpa using hg1
                  have tg3 : (xg != g) = true := by simpa using hg1
                  have hck : ck = false := by rw [HCK.out, tg2]; rfl
                  have zs := blk_lt Bls.out
                  have xs0 := cellsAt Bls.out 0
                  have xs1 := cellsAt Bls.out 1
                  have xs2 := cellsAt Bls.out 2
                  have fs := frozAt Bls.out
                  simp at xs0 xs1 xs2
                  have zc := blk_lt Blc.out
                  have xc0 := cellsAt Blc.out 0
                  have xc1 := cellsAt Blc.out 1
                  have xc2 := cellsAt Blc.out 2
                  have xc3 := cellsAt Blc.out 3
                  have fc := frozAt Blc.out
                  simp at xc0 xc1 xc2 xc3
                  have hyu := yieldU
                  refine wp_region_head2 (by kernel_rfl) (by kernel_rfl) (by kernel_rfl) (by kernel_rfl) (by kernel_rfl) rfl rfl ?_
                  intro K1 hK1
                  go_simp
                  refine hK1 _ _ ?_
                  intro K2 hK2
                  go_simp
                  go_at_call 61
                  refine (HP.out _).mono ?_
                  rintro e w2 ⟨rfl, hb2⟩
                  have hB := (by first | exact hb2 | exact bUndrewC hb2 : Below W6.heap.size W6 w2)
                  have X1 := heap_below Bls.out hB
                  have X2 := heap_below Blc.out hB
                  have zs2 := blk_lt X1
                  have zc2 := blk_lt X2
                  have ys0 := cellsAt X1 0
                  have ys1 := cellsAt X1 1
                  have ys2 := cellsAt X1 2
                  have yc0 := cellsAt X2 0
                  have yc1 := cellsAt X2 1
                  have yc2 := cellsAt X2 2
                  have yc3 := cellsAt X2 3
                  simp at ys0 ys1 ys2 yc0 yc1 yc2 yc3
                  refine hK2 _ _ ?_
                  with_reducible refine wpStill_value (v := ?v6_29) (a' := ?a6_29) ?w6_29 ?x6_29 ?p6_29 ?_
                  case w6_29 => kernel_rfl
                  case x6_29 =>
                    go_simp
                    try rfl
                  case p6_29 =>
                    go_simp
                    try rfl
                  with_reducible refine wpStill_value (v := ?v6_30) (a' := ?a6_30) ?w6_30 ?x6_30 ?p6_30 ?_
                  case w6_30 => kernel_rfl
                  case x6_30 =>
                    go_simp
                    try rfl
                  case p6_30 =>
                    go_simp
                    try rfl
                  with_reducible refine wpStill_value (v := ?v6_31) (a' := ?a6_31) ?w6_31 ?x6_31 ?p6_31 ?_
                  case w6_31 => kernel_rfl
                  case x6_31 =>
                    go_simp
                    try rfl
                  case p6_31 =>
                    go_simp
                    try rfl
                  with_reducible refine wpStill_value (v := ?v6_32) (a' := ?a6_32) ?w6_32 ?x6_32 ?p6_32 ?_
                  case w6_32 => kernel_rfl
                  case x6_32 =>
                    go_simp
                    try rfl
                  case p6_32 =>
                    go_simp
                    try rfl
                  with_reducible refine wpStill_value (v := ?v6_33) (a' := ?a6_33) ?w6_33 ?x6_33 ?p6_33 ?_
                  case w6_33 => kernel_rfl
                  case x6_33 =>
                    go_simp
                    try rfl
                  case p6_33 =>
                    go_simp
                    try rfl
                  with_reducible refine wpStill_value (v := ?v6_34) (a' := ?a6_34) ?w6_34 ?x6_34 ?p6_34 ?_
                  case w6_34 => kernel_rfl
                  case x6_34 =>
                    go_simp
                    try rfl
                  case p6_34 =>
                    go_simp
                    try rfl
                  with_reducible refine wpStill_value (v := ?v6_35) (a' := ?a6_35) ?w6_35 ?x6_35 ?p6_35 ?_
                  case w6_35 => kernel_rfl
                  case x6_35 =>
                    go_simp
                    try rfl
                  case p6_35 =>
                    go_simp
                    try rfl
                  with_reducible refine wpStill_value (v := ?v6_36) (a' := ?a6_36) ?w6_36 ?x6_36 ?p6_36 ?_
                  case w6_36 => kernel_rfl
                  case x6_36 =>
                    go_simp
                    try rfl
                  case p6_36 =>
                    go_simp
                    try rfl
                  with_reducible refine wpStill_value (v := ?v6_37) (a' := ?a6_37) ?w6_37 ?x6_37 ?p6_37 ?_
                  case w6_37 => kernel_rfl
                  case x6_37 =>
                    go_simp
                    try rfl
                  case p6_37 =>
                    go_simp
                    try rfl
                  with_reducible refine wpStill_none (a' := ?a6_38) ?w6_38 ?p6_38 ?_
                  case w6_38 => kernel_rfl
                  case p6_38 =>
                    go_simp
                    try rfl
                  with_reducible refine wpStill_none (a' := ?a6_39) ?w6_39 ?p6_39 ?_
                  case w6_39 => kernel_rfl
                  case p6_39 =>
                    go_simp
                    try rfl
                  with_reducible refine wpStill_none (a' := ?a6_40) ?w6_40 ?p6_40 ?_
                  case w6_40 => kernel_rfl
                  case p6_40 =>
                    go_simp
                    try rfl
                  with_reducible refine wpStill_none (a' := ?a6_41) ?w6_41 ?p6_41 ?_
                  case w6_41 => kernel_rfl
                  case p6_41 =>
                    go_simp
                    try rfl
                  with_reducible refine wpStill_none (a' := ?a6_42) ?w6_42 ?p6_42 ?_
                  case w6_42 => kernel_rfl
                  case p6_42 =>
                    go_simp
                    try rfl
                  with_reducible refine wpStill_value (v := ?v6_43) (a' := ?a6_43) ?w6_43 ?x6_43 ?p6_43 ?_
                  case w6_43 => kernel_rfl
                  case x6_43 =>
                    go_simp
                    try rfl
                  case p6_43 =>
                    go_simp
                    try rfl
                  with_reducible refine wpStill_value (v := ?v6_44) (a' := ?a6_44) ?w6_44 ?x6_44 ?p6_44 ?_
                  case w6_44 => kernel_rfl
                  case x6_44 =>
                    go_simp
                    try rfl
                  case p6_44 =>
                    go_simp
                    try rfl
                  with_reducible refine wpStill_none (a' := ?a6_45) ?w6_45 ?p6_45 ?_
                  case w6_45 => kernel_rfl
                  case p6_45 =>
                    go_simp
                    try rfl
                  with_reducible refine wpStill_none (a' := ?a6_46) ?w6_46 ?p6_46 ?_
                  case w6_46 => kernel_rfl
                  case p6_46 =>
                    go_simp
                    try rfl
                  with_reducible refine wpStill_none (a' := ?a6_47) ?w6_47 ?p6_47 ?_
                  case w6_47 => kernel_rfl
                  case p6_47 =>
                    go_simp
                    try rfl
                  with_reducible refine wpStill_none (a' := ?a6_48) ?w6_48 ?p6_48 ?_
                  case w6_48 => kernel_rfl
                  case p6_48 =>
                    go_simp
                    try rfl
                  with_reducible refine wpStill_none (a' := ?a6_49) ?w6_49 ?p6_49 ?_
                  case w6_49 => kernel_rfl
                  case p6_49 =>
                    go_simp
                    try rfl
                  with_reducible refine wpStill_none (a' := ?a6_50) ?w6_50 ?p6_50 ?_
                  case w6_50 => kernel_rfl
                  case p6_50 =>
                    go_simp
                    try rfl
                  with_reducible refine wpStill_none (a' := ?a6_51) ?w6_51 ?p6_51 ?_
                  case w6_51 => kernel_rfl
                  case p6_51 =>
                    go_simp
                    try rfl
                  with_reducible refine wpStill_none (a' := ?a6_52) ?w6_52 ?p6_52 ?_
                  case w6_52 => kernel_rfl
                  case p6_52 =>
                    go_simp
                    try rfl
                  with_reducible refine wpStill_none (a' := ?a6_53) ?w6_53 ?p6_53 ?_
                  case w6_53 => kernel_rfl
                  case p6_53 =>
                    go_simp
                    try rfl
                  with_reducible refine wpStill_none (a' := ?a6_54) ?w6_54 ?p6_54 ?_
                  case w6_54 => kernel_rfl
                  case p6_54 =>
                    go_simp
                    try rfl
                  with_reducible refine wpStill_none (a' := ?a6_55) ?w6_55 ?p6_55 ?_
                  case w6_55 => kernel_rfl
                  case p6_55 =>
                    go_simp
                    try rfl
                  with_reducible refine wpStill_none (a' := ?a6_56) ?w6_56 ?p6_56 ?_
                  case w6_56 => kernel_rfl
                  case p6_56 =>
                    go_simp
                    try rfl
                  with_reducible refine wpStill_none (a' := ?a6_57) ?w6_57 ?p6_57 ?_
                  case w6_57 => kernel_rfl
                  case p6_57 =>
                    go_simp
                    try rfl
                  with_reducible refine wpStill_none (a' := ?a6_58) ?w6_58 ?p6_58 ?_
                  case w6_58 => kernel_rfl
                  case p6_58 =>
                    go_simp
                    try rfl
                  with_reducible refine wpStill_value (v := ?v6_59) (a' := ?a6_59) ?w6_59 ?x6_59 ?p6_59 ?_
                  case w6_59 => kernel_rfl
                  case x6_59 =>
                    go_simp
                    try rfl
                  case p6_59 =>
                    go_simp
                    try rfl
                  refine wpStill_nil ?_
                  go_wp2_with fail
                  go_meet
                  refine ⟨?_, ?_⟩
                  · simp [hck]
                  · first | exact hB | exact Below.drew hB
            case rest =>
              obtain ⟨rfl, hbc⟩ := hcut
              have BQ := Lib.hid (bThen (bThen BJ.out HBC0.out) hbc)
              have Z := Lib.hid (heap_below Bls.out hbc)
              clear Bls
              have Bls := Z
              clear Z
              have Z := Lib.hid (heap_below Blc.out hbc)
              clear Blc
              have Blc := Z
              clear Z
              have BB10 := Lib.hid (bThen BB9.out hbc)
              clear hbc
              cases ck with
              | false =>
                have hbb := HB2.out
                unfold cksB at hbb
                rw [Hm.out, all_range_not _ hlt HCQ.out] at hbb
                subst hbb
                go_wp2_with fail
                go_ret
                exact ⟨rfl, BB10.out⟩
              | true =>
                go_wp2_with fail
                go_roundw
                case rel => exact ⟨k + 1, by rw [Hm.out]; omega, by go_num, by rw [all_range_succ, HALL.out, HCQ.out]; rfl, BQ.out⟩
                case measure => simp [intOf]; omega
          · obtain rfl : k = m := by omega
            have hbb := HB2.out
            unfold cksB at hbb
            rw [Hm.out, HALL.out] at hbb
            subst hbb
            go_wp2_with fail
            go_ret
            exact ⟨rfl, BB5.out⟩
end Go.Proofs.Ytdanfeldbdooeaa
