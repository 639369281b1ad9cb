/-
  WALKS of layer 18: the law AlignOne.
-/
import Derived.Test.YtenpgkkefielfaaAlignW19
set_option linter.unusedVariables false
set_option linter.unusedSimpArgs false
namespace Go.Proofs.Ytenpgkkefielfaa
open Go.RowKit

/-- An aligner of one input that waits for nothing. -/
def one (r : Value) : Aln := ⟨0, [false], [⟨r, []⟩]⟩
theorem one_of {r : Value} {a : Aln} (h : likeA (one r) a) : ∃ r', a = one r' := by
  obtain ⟨n, g, hd⟩ := a
  obtain ⟨h1, h2, h3, h4⟩ := h
  unfold one at h1 h2 h3 h4
  simp only at h1 h2 h3 h4
  subst h1 h2
  match hd, h3 with
  | [⟨r', l⟩], _ =>
    have := h4 0 _ _ rfl rfl
    simp only at this
    subst this
    exact ⟨r', rfl⟩
theorem one_new : newA' 1 = one (.slice none 0 0) := rfl
theorem one_right (r : Value) : rightA (one r) = true := by simp [rightA, one, hAt, allI]
theorem one_room (r : Value) : roomA (one r) 0 = 16 := by
  unfold roomA
  rw [if_pos ⟨one_right r, by omega, by simp [one]⟩]
  rfl
theorem one_late (r : Value) : lateTo (one r).held (one r).held.length = [] := by simp [lateTo, one, lateL]
theorem one_has (r : Value) : hasA (one r) 0 = true := by simp [hasA, one_right]; simp [one]
theorem one_no (r : Value) (it : It) (h : rightI it = false) : ofer (one r) 0 it = ⟨zA, false, 0, [], 1⟩ := by
  unfold ofer
  rw [h, Bool.and_false, if_neg (by simp)]
theorem one_bar (r : Value) (it : It) (h : rightI it = true) (hk : it.kind = 4) : ofer (one r) 0 it = ⟨one (.slice none 0 0), false, it.n, [], 0⟩ := by
  unfold ofer
  rw [h, one_has, Bool.and_self, if_pos rfl, if_neg (by simp [one]), if_pos hk, if_neg (by simp [one]), if_neg (by simp [one]), one_late]
  rfl
theorem one_pass (r : Value) (it : It) (h : rightI it = true) (hk : it.kind ≠ 4) : ofer (one r) 0 it = ⟨one r, true, 0, [], 0⟩ := by
  unfold ofer
  rw [h, one_has, Bool.and_self, if_pos rfl, if_neg (by simp [one]), if_neg hk]
theorem al_one {W : World} {v : Value} {r : Value} (h : AlAt W v (one r)) : ∃ A1 c1 A2 c2, v = .agg #[.int .i64 0, .slice A1 1 c1, .slice A2 1 c2] := by
  obtain ⟨Ag, cg, Ah, ch, e, -⟩ := al_form h
  exact ⟨_, _, _, _, e⟩
theorem row_nil {W : World} {v : Value} {l : List Lt} (h : Row Lt.cs 12 W v l) (hl : l = []) : ∃ A c, v = .slice A 0 c := by
  subst hl
  obtain ⟨A, c, e, -⟩ := h
  exact ⟨A, c, e⟩
def OneRel (n ga : Nat) (w0 : World) (i : Value) (wr : World) : Prop :=
  ∃ (k : Nat) (r : Value) (A1 : Option Addr) (c1 : Nat) (A2 : Option Addr) (c2 : Nat), k ≤ n ∧ i = .int .i64 k ∧ wr.heap[ga]? = some (.cells #[.int .i64 0, .slice A1 1 c1, .slice A2 1 c2] 26 (0, 0)) ∧ AlAt wr (.agg #[.int .i64 0, .slice A1 1 c1, .slice A2 1 c2]) (one r) ∧ OffB ga (.agg #[.int .i64 0, .slice A1 1 c1, .slice A2 1 c2]) ∧ Below w0.heap.size w0 wr
set_option maxRecDepth 100000 in
set_option maxHeartbeats 8000000 in
theorem one_walk (l : List It) (v : Value) (w : World) (hv : RowI w v l) :
    Calls Try.prog 8 #[v] w fun e w' => e = .returned (.bool true) ∧ Below w.heap.size w w' := by
  have HV := Lib.hid hv
  have HN := Lib.hid (fun W => anew_own 1 1 rfl W (by omega) (by omega))
  obtain ⟨⟨A, c, rfl, -, -⟩, -, hll⟩ := hv
  unfold maxLen at hll
  go_enter Try.func8, Try.ntmps8
  go_wp2_with fail
  refine (HN.out _).mono ?_
  rintro e w1 ⟨⟨v0, rfl, hvn, -⟩, hb1⟩
  have hge1 := hb1.size
  have BB1 := Lib.hid hb1
  clear hb1
  have KA := Lib.hid (hvn w1 (fun _ _ _ => rfl))
  clear hvn
  rw [one_new] at KA
  have OF := Lib.hid (off_arg KA.out (by simp [one]) (Nat.le_refl _))
  obtain ⟨A1, c1, A2, c2, rfl⟩ := al_one KA.out
  have HV1 := Lib.hid (RowI.below HV.out BB1.out)
  go_wp2_with fail
  obtain ⟨W2, hW3⟩ : ∃ X, X = (w1).alloc (.cells #[.int .i64 0, .slice A1 1 c1, .slice A2 1 c2] 26) := ⟨_, rfl⟩
  rw [← hW3]
  have hb4 : Below w1.heap.size w1 W2 := by rw [hW3]; exact bel_alloc (Below.refl _ _) _
  have Na := Lib.hid (show W2.heap[w1.heap.size]? = some (.cells #[.int .i64 0, .slice A1 1 c1, .slice A2 1 c2] 26 (0, 0)) by rw [hW3]; exact heap_at (w1) _ (w1.heap.size) (by simp))
  clear hW3
  have Z := Lib.hid (AlAt.below KA.out hb4)
  clear KA
  have KA := Z
  clear Z
  have Z := Lib.hid (RowI.below HV1.out hb4)
  clear HV1
  have HV1 := Z
  clear Z
  have BB5 := Lib.hid (bThen BB1.out hb4)
  clear hb4
  have Bla := Na
  clear Na
  have za := blk_lt Bla.out
  have xa0 := cellsAt Bla.out 0
  have xa1 := cellsAt Bla.out 1
  have xa2 := cellsAt Bla.out 2
  have fa := frozAt Bla.out
  simp at xa0 xa1 xa2
  refine (aalive_any _).mono ?_
  rintro e w6 ⟨rfl, hb7⟩
  clear za fa xa0 xa1 xa2
  have Z := Lib.hid (heap_below Bla.out hb7)
  clear Bla
  have Bla := Z
  clear Z
  have Z := Lib.hid (AlAt.below KA.out hb7)
  clear KA
  have KA := Z
  clear Z
  have Z := Lib.hid (RowI.below HV1.out hb7)
  clear HV1
  have HV1 := Z
  clear Z
  have BB8 := Lib.hid (bThen BB5.out hb7)
  clear hb7
  have za := blk_lt Bla.out
  have xa0 := cellsAt Bla.out 0
  have xa1 := cellsAt Bla.out 1
  have xa2 := cellsAt Bla.out 2
  have fa := frozAt Bla.out
  simp at xa0 xa1 xa2
  go_wp2_with fail
  have BW0 := Lib.hid BB8.out
  clear za fa xa0 xa1 xa2
  go_loopw [24] (fun i wr => OneRel l.length w1.heap.size w i wr) (fun i _ => l.length - (intOf i).toNat)
  case atStart => exact ⟨0, _, _, _, _, _, Nat.zero_le _, rfl, Bla.out, KA.out, OF.out, BB8.out⟩
  case round =>
    obtain ⟨k, r, D1, d1, D2, d2, hk, rfl, hblk, hka, hof, hbel⟩ := hrel
    clear KA Bla OF HV1 BW0 BB1 BB8
    have HB := Lib.hid hbel
    have Bla := Lib.hid hblk
    have KA := Lib.hid hka
    have OF := Lib.hid hof
    clear hbel hblk hka hof
    have HL := Lib.hid (RowI.below HV.out HB.out)
    by_cases hlt : k < l.length
    · obtain ⟨x, hi⟩ : ∃ x, l[k]? = some x := ⟨_, List.getElem?_eq_getElem hlt⟩
      obtain ⟨b', o', c', e', hc', hb', hX⟩ := HL.out.1.at_ hi
      injection e' with e1 _ e3
      subst e1 e3
      have hxw := HL.out.2.1 x (List.mem_of_getElem? hi)
      have HXW := Lib.hid hxw
      have c0 := hX 0 _ rfl
      have c1 := hX 1 _ rfl
      have c2 := hX 2 _ rfl
      have c3 := hX 3 _ rfl
      have c4 := hX 4 _ rfl
      have c5 := hX 5 _ rfl
      have c6 := hX 6 _ rfl
      have c7 := hX 7 _ rfl
      have c8 := hX 8 _ rfl
      have c9 := hX 9 _ rfl
      have c10 := hX 10 _ rfl
      clear hX hi hxw
      obtain ⟨y0, y1, y2, y3, y4, y5, y6, y7, y8, y9, y10⟩ := x
      simp only [Nat.add_zero] at c0 c1 c2 c3 c4 c5 c6 c7 c8 c9 c10
      go_upto_region 7 with fail
      clear c0 c1 c2 c3 c4 c5 c6 c7 c8 c9 c10
      obtain ⟨W9, hW10⟩ : ∃ X, X = (wr).alloc (.cells #[.int .i64 y0, .string y1, .int .i64 y2, .int .i64 y3, .int .i64 y4, .int .i64 y5, .int .i64 y6, .int .i64 y7, .string y8, .int .i64 y9, .int .i64 y10] 43) := ⟨_, rfl⟩
      rw [← hW10]
      have hb11 : Below wr.heap.size wr W9 := by rw [hW10]; exact bel_alloc (Below.refl _ _) _
      have Nx := Lib.hid (show W9.heap[wr.heap.size]? = some (.cells #[.int .i64 y0, .string y1, .int .i64 y2, .int .i64 y3, .int .i64 y4, .int .i64 y5, .int .i64 y6, .int .i64 y7, .string y8, .int .i64 y9, .int .i64 y10] 43 (0, 0)) by rw [hW10]; exact heap_at (wr) _ (wr.heap.size) (by simp))
      clear hW10
      have Z := Lib.hid (heap_below Bla.out hb11)
      clear Bla
      have Bla := Z
      clear Z
      have Z := Lib.hid (AlAt.below KA.out hb11)
      clear KA
      have KA := Z
      clear Z
      have Z := Lib.hid (RowI.below HL.out hb11)
      clear HL
      have HL := Z
      clear Z
      have BB12 := Lib.hid (bThen HB.out hb11)
      clear hb11
      have Blx := Nx
      clear Nx
      have za := blk_lt Bla.out
      have xa0 := cellsAt Bla.out 0
      have xa1 := cellsAt Bla.out 1
      have xa2 := cellsAt Bla.out 2
      have fa := frozAt Bla.out
      simp at xa0 xa1 xa2
      have zx := blk_lt Blx.out
      have xx0 := cellsAt Blx.out 0
      have xx1 := cellsAt Blx.out 1
      have xx2 := cellsAt Blx.out 2
      have xx3 := cellsAt Blx.out 3
      have xx4 := cellsAt Blx.out 4
      have xx5 := cellsAt Blx.out 5
      have xx6 := cellsAt Blx.out 6
      have xx7 := cellsAt Blx.out 7
      have xx8 := cellsAt Blx.out 8
      have xx9 := cellsAt Blx.out 9
      have xx10 := cellsAt Blx.out 10
      have fx := frozAt Blx.out
      simp at xx0 xx1 xx2 xx3 xx4 xx5 xx6 xx7 xx8 xx9 xx10
      by_cases h60 : 60 ≤ (k : Int)
      · have t60 : decide (60 ≤ (k : Int)) = true := by simpa using h60
        clear za fa xa0 xa1 xa2 zx fx xx0 xx1 xx2 xx3 xx4 xx5 xx6 xx7 xx8 xx9 xx10
        have za := blk_lt Bla.out
        have xa0 := cellsAt Bla.out 0
        have xa1 := cellsAt Bla.out 1
        have xa2 := cellsAt Bla.out 2
        have fa := frozAt Bla.out
        simp at xa0 xa1 xa2
        go_wp2_with fail
        refine (aright_any (one r) _ _ KA.out true (one_right r)).mono ?_
        rintro e w13 ⟨rfl, hb14⟩
        clear za fa xa0 xa1 xa2
        have Z := Lib.hid (heap_below Bla.out hb14)
        clear Bla
        have Bla := Z
        clear Z
        have Z := Lib.hid (heap_below Blx.out hb14)
        clear Blx
        have Blx := Z
        clear Z
        have Z := Lib.hid (AlAt.below KA.out hb14)
        clear KA
        have KA := Z
        clear Z
        have Z := Lib.hid (RowI.below HL.out hb14)
        clear HL
        have HL := Z
        clear Z
        have BB15 := Lib.hid (bThen BB12.out hb14)
        clear hb14
        go_wp2_with fail
        go_ret
        exact ⟨rfl, BB15.out⟩
      · have t60 : decide (60 ≤ (k : Int)) = false := by simpa using h60
        go_wp2_with fail
        have HO := Lib.hid (fun v W hW => offer_any (one r) 0 (by unfold wfL; omega) ⟨y0, y1, y2, y3, y4, y5, y6, y7, y8, y9, y10⟩ HXW.out v W hW)
        obtain ⟨q, hq⟩ : ∃ q, rightI ⟨y0, y1, y2, y3, y4, y5, y6, y7, y8, y9, y10⟩ = q := ⟨_, rfl⟩
        cases q with
        | false =>
          rw [one_no r _ hq] at HO
          unfold itV at HO
          refine (HO.out _ _ KA.out).mono ?_
          rintro e w13 ⟨⟨v2, a2, vl, rfl, ha2, hl2, hof2, hrow⟩, hb14⟩
          have OF2 := hof2 w1.heap.size (blk_lt Bla.out) OF.out
          clear hof2
          clear za fa xa0 xa1 xa2 zx fx xx0 xx1 xx2 xx3 xx4 xx5 xx6 xx7 xx8 xx9 xx10
          have Z := Lib.hid (heap_below Bla.out hb14)
          clear Bla
          have Bla := Z
          clear Z
          have Z := Lib.hid (heap_below Blx.out hb14)
          clear Blx
          have Blx := Z
          clear Z
          have Z := Lib.hid (AlAt.below KA.out hb14)
          clear KA
          have KA := Z
          clear Z
          have Z := Lib.hid (RowI.below HL.out hb14)
          clear HL
          have HL := Z
          clear Z
          have BB15 := Lib.hid (bThen BB12.out hb14)
          clear hb14
          obtain ⟨Al, cl, rfl⟩ := row_nil hrow rfl
          obtain ⟨l2, B1, m1, d3, B2, m2, d4, rfl⟩ := al_form3 ha2
          have za := blk_lt Bla.out
          have xa0 := cellsAt Bla.out 0
          have xa1 := cellsAt Bla.out 1
          have xa2 := cellsAt Bla.out 2
          have fa := frozAt Bla.out
          simp at xa0 xa1 xa2
          have zx := blk_lt Blx.out
          have xx0 := cellsAt Blx.out 0
          have xx1 := cellsAt Blx.out 1
          have xx2 := cellsAt Blx.out 2
          have xx3 := cellsAt Blx.out 3
          have xx4 := cellsAt Blx.out 4
          have xx5 := cellsAt Blx.out 5
          have xx6 := cellsAt Blx.out 6
          have xx7 := cellsAt Blx.out 7
          have xx8 := cellsAt Blx.out 8
          have xx9 := cellsAt Blx.out 9
          have xx10 := cellsAt Blx.out 10
          have fx := frozAt Blx.out
          simp at xx0 xx1 xx2 xx3 xx4 xx5 xx6 xx7 xx8 xx9 xx10
          go_wp2_with fail
          go_roundw
          case rel => exact ⟨k + 1, r, D1, d1, D2, d2, by omega, by go_num, heap_below Bla.out (bel_alloc (Below.refl _ _) _), AlAt.below KA.out (bel_alloc (Below.refl _ _) _), OF.out, bel_alloc BB15.out _⟩
          case measure => simp [intOf]; omega
        | true =>
          by_cases hk4 : y0 = 4
          · subst hk4
            rw [one_bar r _ hq rfl] at HO
            unfold itV at HO
            refine (HO.out _ _ KA.out).mono ?_
            rintro e w13 ⟨⟨v2, a2, vl, rfl, ha2, hl2, hof2, hrow⟩, hb14⟩
            have OF2 := hof2 w1.heap.size (blk_lt Bla.out) OF.out
            clear hof2
            clear za fa xa0 xa1 xa2 zx fx xx0 xx1 xx2 xx3 xx4 xx5 xx6 xx7 xx8 xx9 xx10
            have Z := Lib.hid (heap_below Bla.out hb14)
            clear Bla
            have Bla := Z
            clear Z
            have Z := Lib.hid (heap_below Blx.out hb14)
            clear Blx
            have Blx := Z
            clear Z
            have Z := Lib.hid (AlAt.below KA.out hb14)
            clear KA
            have KA := Z
            clear Z
            have Z := Lib.hid (RowI.below HL.out hb14)
            clear HL
            have HL := Z
            clear Z
            have BB15 := Lib.hid (bThen BB12.out hb14)
            clear hb14
            obtain ⟨Al, cl, rfl⟩ := row_nil hrow rfl
            obtain ⟨r2, rfl⟩ := one_of hl2
            obtain ⟨B1, d3, B2, d4, rfl⟩ := al_one ha2
            have KB := Lib.hid ha2
            have OG := Lib.hid OF2
            clear ha2 OF2 hl2
            have za := blk_lt Bla.out
            have xa0 := cellsAt Bla.out 0
            have xa1 := cellsAt Bla.out 1
            have xa2 := cellsAt Bla.out 2
            have fa := frozAt Bla.out
            simp at xa0 xa1 xa2
            have zx := blk_lt Blx.out
            have xx0 := cellsAt Blx.out 0
            have xx1 := cellsAt Blx.out 1
            have xx2 := cellsAt Blx.out 2
            have xx3 := cellsAt Blx.out 3
            have xx4 := cellsAt Blx.out 4
            have xx5 := cellsAt Blx.out 5
            have xx6 := cellsAt Blx.out 6
            have xx7 := cellsAt Blx.out 7
            have xx8 := cellsAt Blx.out 8
            have xx9 := cellsAt Blx.out 9
            have xx10 := cellsAt Blx.out 10
            have fx := frozAt Blx.out
            simp at xx0 xx1 xx2 xx3 xx4 xx5 xx6 xx7 xx8 xx9 xx10
            go_upto_region 12 with fail
            obtain ⟨W16, hW17⟩ : ∃ X, X = (w13).alloc (.cells #[.int .i64 0, .slice B1 1 d3, .slice B2 1 d4] 26) := ⟨_, rfl⟩
            rw [← hW17]
            have hb18 : Below w13.heap.size w13 W16 := by rw [hW17]; exact bel_alloc (Below.refl _ _) _
            have Nb := Lib.hid (show W16.heap[w13.heap.size]? = some (.cells #[.int .i64 0, .slice B1 1 d3, .slice B2 1 d4] 26 (0, 0)) by rw [hW17]; exact heap_at (w13) _ (w13.heap.size) (by simp))
            clear hW17
            have Z := Lib.hid (heap_below Bla.out hb18)
            clear Bla
            have Bla := Z
            clear Z
            have Z := Lib.hid (heap_below Blx.out hb18)
            clear Blx
            have Blx := Z
            clear Z
            have Z := Lib.hid (AlAt.below KA.out hb18)
            clear KA
            have KA := Z
            clear Z
            have Z := Lib.hid (RowI.below HL.out hb18)
            clear HL
            have HL := Z
            clear Z
            have Z := Lib.hid (AlAt.below KB.out hb18)
            clear KB
            have KB := Z
            clear Z
            have BB19 := Lib.hid (bThen BB15.out hb18)
            clear hb18
            have Blb := Nb
            clear Nb
            clear za fa xa0 xa1 xa2 zx fx xx0 xx1 xx2 xx3 xx4 xx5 xx6 xx7 xx8 xx9 xx10
            have za := blk_lt Bla.out
            have xa0 := cellsAt Bla.out 0
            have xa1 := cellsAt Bla.out 1
            have xa2 := cellsAt Bla.out 2
            have fa := frozAt Bla.out
            simp at xa0 xa1 xa2
            have zx := blk_lt Blx.out
            have xx0 := cellsAt Blx.out 0
            have xx1 := cellsAt Blx.out 1
            have xx2 := cellsAt Blx.out 2
            have xx3 := cellsAt Blx.out 3
            have xx4 := cellsAt Blx.out 4
            have xx5 := cellsAt Blx.out 5
            have xx6 := cellsAt Blx.out 6
            have xx7 := cellsAt Blx.out 7
            have xx8 := cellsAt Blx.out 8
            have xx9 := cellsAt Blx.out 9
            have xx10 := cellsAt Blx.out 10
            have fx := frozAt Blx.out
            simp at xx0 xx1 xx2 xx3 xx4 xx5 xx6 xx7 xx8 xx9 xx10
            have zb := blk_lt Blb.out
            have xb0 := cellsAt Blb.out 0
            have xb1 := cellsAt Blb.out 1
            have xb2 := cellsAt Blb.out 2
            have fb := frozAt Blb.out
            simp at xb0 xb1 xb2
            have CO := Lib.hid (fun w' (hb : Below W16.heap.size W16 w') => aroom_any (one r2) 0 (by unfold wfL; omega) _ w' (KB.out.below hb))
            rw [one_room] at CO
            go_wp2_with fail
            refine (CO.out _ (Below.refl _ _)).mono ?_
            rintro e w20 ⟨rfl, hb21⟩
            clear za fa xa0 xa1 xa2 zx fx xx0 xx1 xx2 xx3 xx4 xx5 xx6 xx7 xx8 xx9 xx10 zb fb xb0 xb1 xb2
            have Z := Lib.hid (heap_below Bla.out hb21)
            clear Bla
            have Bla := Z
            clear Z
            have Z := Lib.hid (heap_below Blx.out hb21)
            clear Blx
            have Blx := Z
            clear Z
            have Z := Lib.hid (heap_below Blb.out hb21)
            clear Blb
            have Blb := Z
            clear Z
            have Z := Lib.hid (AlAt.below KA.out hb21)
            clear KA
            have KA := Z
            clear Z
            have Z := Lib.hid (RowI.below HL.out hb21)
            clear HL
            have HL := Z
            clear Z
            have Z := Lib.hid (AlAt.below KB.out hb21)
            clear KB
            have KB := Z
            clear Z
            have BB22 := Lib.hid (bThen BB19.out hb21)
            clear hb21
            have za := blk_lt Bla.out
            have xa0 := cellsAt Bla.out 0
            have xa1 := cellsAt Bla.out 1
            have xa2 := cellsAt Bla.out 2
            have fa := frozAt Bla.out
            simp at xa0 xa1 xa2
            have zx := blk_lt Blx.out
            have xx0 := cellsAt Blx.out 0
            have xx1 := cellsAt Blx.out 1
            have xx2 := cellsAt Blx.out 2
            have xx3 := cellsAt Blx.out 3
            have xx4 := cellsAt Blx.out 4
            have xx5 := cellsAt Blx.out 5
            have xx6 := cellsAt Blx.out 6
            have xx7 := cellsAt Blx.out 7
            have xx8 := cellsAt Blx.out 8
            have xx9 := cellsAt Blx.out 9
            have xx10 := cellsAt Blx.out 10
            have fx := frozAt Blx.out
            simp at xx0 xx1 xx2 xx3 xx4 xx5 xx6 xx7 xx8 xx9 xx10
            have zb := blk_lt Blb.out
            have xb0 := cellsAt Blb.out 0
            have xb1 := cellsAt Blb.out 1
            have xb2 := cellsAt Blb.out 2
            have fb := frozAt Blb.out
            simp at xb0 xb1 xb2
            go_wp2_with fail
            go_roundw
            case rel => exact ⟨k + 1, r2, B1, d3, B2, d4, by omega, by go_num, set3 Bla.out _ _ _, KB.out.keepBox Bla.out OG.out (cell_set3 _ _ _ _ _) (by simp), OG.out, bel3 BB22.out hge1 _ _ _⟩
            case measure => simp [intOf]; omega
          · rw [one_pass r _ hq hk4] at HO
            have t4 : (y0 != 4) = true := by simpa using hk4
            have t5 : (y0 == 4) = false := by simpa using hk4
            unfold itV at HO
            refine (HO.out _ _ KA.out).mono ?_
            rintro e w13 ⟨⟨v2, a2, vl, rfl, ha2, hl2, hof2, hrow⟩, hb14⟩
            have OF2 := hof2 w1.heap.size (blk_lt Bla.out) OF.out
            clear hof2
            clear za fa xa0 xa1 xa2 zx fx xx0 xx1 xx2 xx3 xx4 xx5 xx6 xx7 xx8 xx9 xx10
            have Z := Lib.hid (heap_below Bla.out hb14)
            clear Bla
            have Bla := Z
            clear Z
            have Z := Lib.hid (heap_below Blx.out hb14)
            clear Blx
            have Blx := Z
            clear Z
            have Z := Lib.hid (AlAt.below KA.out hb14)
            clear KA
            have KA := Z
            clear Z
            have Z := Lib.hid (RowI.below HL.out hb14)
            clear HL
            have HL := Z
            clear Z
            have BB15 := Lib.hid (bThen BB12.out hb14)
            clear hb14
            obtain ⟨Al, cl, rfl⟩ := row_nil hrow rfl
            obtain ⟨r2, rfl⟩ := one_of hl2
            obtain ⟨B1, d3, B2, d4, rfl⟩ := al_one ha2
            have KB := Lib.hid ha2
            have OG := Lib.hid OF2
            clear ha2 OF2 hl2
            have za := blk_lt Bla.out
            have xa0 := cellsAt Bla.out 0
            have xa1 := cellsAt Bla.out 1
            have xa2 := cellsAt Bla.out 2
            have fa := frozAt Bla.out
            simp at xa0 xa1 xa2
            have zx := blk_lt Blx.out
            have xx0 := cellsAt Blx.out 0
            have xx1 := cellsAt Blx.out 1
            have xx2 := cellsAt Blx.out 2
            have xx3 := cellsAt Blx.out 3
            have xx4 := cellsAt Blx.out 4
            have xx5 := cellsAt Blx.out 5
            have xx6 := cellsAt Blx.out 6
            have xx7 := cellsAt Blx.out 7
            have xx8 := cellsAt Blx.out 8
            have xx9 := cellsAt Blx.out 9
            have xx10 := cellsAt Blx.out 10
            have fx := frozAt Blx.out
            simp at xx0 xx1 xx2 xx3 xx4 xx5 xx6 xx7 xx8 xx9 xx10
            go_upto_region 12 with fail
            obtain ⟨W16, hW17⟩ : ∃ X, X = (w13).alloc (.cells #[.int .i64 0, .slice B1 1 d3, .slice B2 1 d4] 26) := ⟨_, rfl⟩
            rw [← hW17]
            have hb18 : Below w13.heap.size w13 W16 := by rw [hW17]; exact bel_alloc (Below.refl _ _) _
            have Nb := Lib.hid (show W16.heap[w13.heap.size]? = some (.cells #[.int .i64 0, .slice B1 1 d3, .slice B2 1 d4] 26 (0, 0)) by rw [hW17]; exact heap_at (w13) _ (w13.heap.size) (by simp))
            clear hW17
            have Z := Lib.hid (heap_below Bla.out hb18)
            clear Bla
            have Bla := Z
            clear Z
            have Z := Lib.hid (heap_below Blx.out hb18)
            clear Blx
            have Blx := Z
            clear Z
            have Z := Lib.hid (AlAt.below KA.out hb18)
            clear KA
            have KA := Z
            clear Z
            have Z := Lib.hid (RowI.below HL.out hb18)
            clear HL
            have HL := Z
            clear Z
            have Z := Lib.hid (AlAt.below KB.out hb18)
            clear KB
            have KB := Z
            clear Z
            have BB19 := Lib.hid (bThen BB15.out hb18)
            clear hb18
            have Blb := Nb
            clear Nb
            clear za fa xa0 xa1 xa2 zx fx xx0 xx1 xx2 xx3 xx4 xx5 xx6 xx7 xx8 xx9 xx10
            have za := blk_lt Bla.out
            have xa0 := cellsAt Bla.out 0
            have xa1 := cellsAt Bla.out 1
            have xa2 := cellsAt Bla.out 2
            have fa := frozAt Bla.out
            simp at xa0 xa1 xa2
            have zx := blk_lt Blx.out
            have xx0 := cellsAt Blx.out 0
            have xx1 := cellsAt Blx.out 1
            have xx2 := cellsAt Blx.out 2
            have xx3 := cellsAt Blx.out 3
            have xx4 := cellsAt Blx.out 4
            have xx5 := cellsAt Blx.out 5
            have xx6 := cellsAt Blx.out 6
            have xx7 := cellsAt Blx.out 7
            have xx8 := cellsAt Blx.out 8
            have xx9 := cellsAt Blx.out 9
            have xx10 := cellsAt Blx.out 10
            have fx := frozAt Blx.out
            simp at xx0 xx1 xx2 xx3 xx4 xx5 xx6 xx7 xx8 xx9 xx10
            have zb := blk_lt Blb.out
            have xb0 := cellsAt Blb.out 0
            have xb1 := cellsAt Blb.out 1
            have xb2 := cellsAt Blb.out 2
            have fb := frozAt Blb.out
            simp at xb0 xb1 xb2
            have CO := Lib.hid (fun w' (hb : Below W16.heap.size W16 w') => aroom_any (one r2) 0 (by unfold wfL; omega) _ w' (KB.out.below hb))
            rw [one_room] at CO
            go_wp2_with fail
            refine (CO.out _ (Below.refl _ _)).mono ?_
            rintro e w20 ⟨rfl, hb21⟩
            clear za fa xa0 xa1 xa2 zx fx xx0 xx1 xx2 xx3 xx4 xx5 xx6 xx7 xx8 xx9 xx10 zb fb xb0 xb1 xb2
            have Z := Lib.hid (heap_below Bla.out hb21)
            clear Bla
            have Bla := Z
            clear Z
            have Z := Lib.hid (heap_below Blx.out hb21)
            clear Blx
            have Blx := Z
            clear Z
            have Z := Lib.hid (heap_below Blb.out hb21)
            clear Blb
            have Blb := Z
            clear Z
            have Z := Lib.hid (AlAt.below KA.out hb21)
            clear KA
            have KA := Z
            clear Z
            have Z := Lib.hid (RowI.below HL.out hb21)
            clear HL
            have HL := Z
            clear Z
            have Z := Lib.hid (AlAt.below KB.out hb21)
            clear KB
            have KB := Z
            clear Z
            have BB22 := Lib.hid (bThen BB19.out hb21)
            clear hb21
            have za := blk_lt Bla.out
            have xa0 := cellsAt Bla.out 0
            have xa1 := cellsAt Bla.out 1
            have xa2 := cellsAt Bla.out 2
            have fa := frozAt Bla.out
            simp at xa0 xa1 xa2
            have zx := blk_lt Blx.out
            have xx0 := cellsAt Blx.out 0
            have xx1 := cellsAt Blx.out 1
            have xx2 := cellsAt Blx.out 2
            have xx3 := cellsAt Blx.out 3
            have xx4 := cellsAt Blx.out 4
            have xx5 := cellsAt Blx.out 5
            have xx6 := cellsAt Blx.out 6
            have xx7 := cellsAt Blx.out 7
            have xx8 := cellsAt Blx.out 8
            have xx9 := cellsAt Blx.out 9
            have xx10 := cellsAt Blx.out 10
            have fx := frozAt Blx.out
            simp at xx0 xx1 xx2 xx3 xx4 xx5 xx6 xx7 xx8 xx9 xx10
            have zb := blk_lt Blb.out
            have xb0 := cellsAt Blb.out 0
            have xb1 := cellsAt Blb.out 1
            have xb2 := cellsAt Blb.out 2
            have fb := frozAt Blb.out
            simp at xb0 xb1 xb2
            go_wp2_with fail
            go_roundw
            case rel => exact ⟨k + 1, r2, B1, d3, B2, d4, by omega, by go_num, set3 Bla.out _ _ _, KB.out.keepBox Bla.out OG.out (cell_set3 _ _ _ _ _) (by simp), OG.out, bel3 BB22.out hge1 _ _ _⟩
            case measure => simp [intOf]; omega
    · obtain rfl : k = l.length := by omega
      have za := blk_lt Bla.out
      have xa0 := cellsAt Bla.out 0
      have xa1 := cellsAt Bla.out 1
      have xa2 := cellsAt Bla.out 2
      have fa := frozAt Bla.out
      simp at xa0 xa1 xa2
      go_wp2_with fail
      refine (aright_any (one r) _ _ KA.out true (one_right r)).mono ?_
      rintro e w9 ⟨rfl, hb10⟩
      clear za fa xa0 xa1 xa2
      have Z := Lib.hid (heap_below Bla.out hb10)
      clear Bla
      have Bla := Z
      clear Z
      have Z := Lib.hid (AlAt.below KA.out hb10)
      clear KA
      have KA := Z
      clear Z
      have Z := Lib.hid (RowI.below HL.out hb10)
      clear HL
      have HL := Z
      clear Z
      have BB11 := Lib.hid (bThen HB.out hb10)
      clear hb10
      go_wp2_with fail
      go_ret
      exact ⟨rfl, BB11.out⟩
end Go.Proofs.Ytenpgkkefielfaa
