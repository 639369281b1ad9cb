/-
  WALKS of layer 18: the law AlignHolds.
-/
import Derived.Test.YtenpgkkefielfaaAlignW22
set_option linter.unusedVariables false
set_option linter.unusedSimpArgs false
namespace Go.Proofs.Ytenpgkkefielfaa
open Go.RowKit

def HoldRel (n ga N : Nat) (w0 : World) (i : Value) (wr : World) : Prop :=
  ∃ (k : Nat) (a : Aln) (A1 : Option Addr) (c1 : Nat) (A2 : Option Addr) (c2 : Nat), k ≤ n ∧ i = .int .i64 k ∧ wr.heap[ga]? = some (.cells #[.int .i64 a.n, .slice A1 N c1, .slice A2 N c2] 26 (0, 0)) ∧ AlAt wr (.agg #[.int .i64 a.n, .slice A1 N c1, .slice A2 N c2]) a ∧ rightA a = true ∧ a.got.length = N ∧ OffB ga (.agg #[.int .i64 a.n, .slice A1 N c1, .slice A2 N c2]) ∧ Below w0.heap.size w0 wr
theorem row_form {W : World} {v : Value} {l : List Lt} (h : Row Lt.cs 12 W v l) : ∃ A c, v = .slice A l.length c := by
  obtain ⟨A, c, e, -⟩ := h
  exact ⟨A, c, e⟩
theorem al_form4 {W : World} {v : Value} {a : Aln} (h : AlAt W v a) : ∃ A1 c1 A2 c2, v = .agg #[.int .i64 a.n, .slice A1 a.got.length c1, .slice A2 a.held.length c2] := by
  obtain ⟨Ag, cg, Ah, ch, e, -⟩ := al_form h
  exact ⟨_, _, _, _, e⟩
set_option maxRecDepth 100000 in
set_option maxHeartbeats 8000000 in
theorem holds_walk (a : Aln) (i : Int) (hi : wfL i) (l : List It) (va vl : Value) (w : World) (ha : AlAt w va a) (hl : RowI w vl l) :
    Calls Try.prog 5 #[va, .int .i64 i, vl] w fun e w' => e = .returned (.bool true) ∧ Below w.heap.size w w' := by
  have HV := Lib.hid ha
  have HL0 := Lib.hid hl
  have HI := Lib.hid hi
  obtain ⟨⟨A, c, rfl, -, -⟩, -, hll⟩ := hl
  unfold maxLen at hll
  have HS := Lib.hid (fun v W hW => asmall_any a v W hW)
  obtain ⟨q, hq⟩ : ∃ q, rightA a = q := ⟨_, rfl⟩
  have HR := Lib.hid (fun v W hW => aright_any a v W hW q hq)
  have Hq := Lib.hid hq
  obtain ⟨Ag, cg, Ah, ch, rfl, -, -, -, -, hlg, hlh⟩ := al_form ha
  unfold maxLen at hlg hlh
  unfold wfL at hi
  obtain ⟨lg, hlg'⟩ : ∃ n, a.got.length = n := ⟨_, rfl⟩
  obtain ⟨lh, hlh'⟩ : ∃ n, a.held.length = n := ⟨_, rfl⟩
  have HLG := Lib.hid hlg'
  have HLH := Lib.hid hlh'
  rw [hlg', hlh'] at HV
  rw [hlg'] at hlg
  rw [hlh'] at hlh
  rw [hlg', hlh']
  clear ha hlg' hlh' hq
  go_enter Try.func5, Try.ntmps5
  go_wp2_with fail
  have KV := HV
  obtain ⟨W1, hW2⟩ : ∃ X, X = (w).alloc (.cells #[.int .i64 a.n, .slice Ag lg cg, .slice Ah lh ch] 26) := ⟨_, rfl⟩
  rw [← hW2]
  have hb3 : Below w.heap.size w W1 := by rw [hW2]; exact bel_alloc (Below.refl _ _) _
  have Na := Lib.hid (show W1.heap[w.heap.size]? = some (.cells #[.int .i64 a.n, .slice Ag lg cg, .slice Ah lh ch] 26 (0, 0)) by rw [hW2]; exact heap_at (w) _ (w.heap.size) (by simp))
  clear hW2
  have Z := Lib.hid (AlAt.below KV.out hb3)
  clear KV
  have KV := Z
  clear Z
  have BB4 := Lib.hid hb3
  clear hb3
  have Bla := Na
  clear Na
  have za := blk_lt Bla.out
  have xa0 := cellsAt Bla.out 0
  have xa1 := cellsAt Bla.out 1
  have xa2 := cellsAt Bla.out 2
  have fa := frozAt Bla.out
  simp at xa0 xa1 xa2
  refine (HS.out _ _ KV.out).mono ?_
  rintro e w5 ⟨⟨qs, rfl⟩, hb6⟩
  clear za fa xa0 xa1 xa2
  have Z := Lib.hid (heap_below Bla.out hb6)
  clear Bla
  have Bla := Z
  clear Z
  have Z := Lib.hid (AlAt.below KV.out hb6)
  clear KV
  have KV := Z
  clear Z
  have BB7 := Lib.hid (bThen BB4.out hb6)
  clear hb6
  have za := blk_lt Bla.out
  have xa0 := cellsAt Bla.out 0
  have xa1 := cellsAt Bla.out 1
  have xa2 := cellsAt Bla.out 2
  have fa := frozAt Bla.out
  simp at xa0 xa1 xa2
  cases qs with
  | false =>
    go_wp2_with fail
    refine (aalive_any _).mono ?_
    rintro e w8 ⟨rfl, hb9⟩
    clear za fa xa0 xa1 xa2
    have Z := Lib.hid (heap_below Bla.out hb9)
    clear Bla
    have Bla := Z
    clear Z
    have Z := Lib.hid (AlAt.below KV.out hb9)
    clear KV
    have KV := Z
    clear Z
    have BB10 := Lib.hid (bThen BB7.out hb9)
    clear hb9
    go_wp2_with fail
    go_ret
    exact ⟨rfl, BB10.out⟩
  | true =>
  go_wp2_with fail
  refine (HR.out _ _ KV.out).mono ?_
  rintro e w8 ⟨rfl, hb9⟩
  clear za fa xa0 xa1 xa2
  have Z := Lib.hid (heap_below Bla.out hb9)
  clear Bla
  have Bla := Z
  clear Z
  have Z := Lib.hid (AlAt.below KV.out hb9)
  clear KV
  have KV := Z
  clear Z
  have BB10 := Lib.hid (bThen BB7.out hb9)
  clear hb9
  have za := blk_lt Bla.out
  have xa0 := cellsAt Bla.out 0
  have xa1 := cellsAt Bla.out 1
  have xa2 := cellsAt Bla.out 2
  have fa := frozAt Bla.out
  simp at xa0 xa1 xa2
  cases q with
  | false =>
    go_wp2_with fail
    refine (aalive_any _).mono ?_
    rintro e w11 ⟨rfl, hb12⟩
    clear za fa xa0 xa1 xa2
    have Z := Lib.hid (heap_below Bla.out hb12)
    clear Bla
    have Bla := Z
    clear Z
    have Z := Lib.hid (AlAt.below KV.out hb12)
    clear KV
    have KV := Z
    clear Z
    have BB13 := Lib.hid (bThen BB10.out hb12)
    clear hb12
    go_wp2_with fail
    go_ret
    exact ⟨rfl, BB13.out⟩
  | true =>
  by_cases h1 : i < 0
  · have t1 : decide (i < 0) = true := by simpa using h1
    go_wp2_with fail
    refine (aalive_any _).mono ?_
    rintro e w11 ⟨rfl, hb12⟩
    clear za fa xa0 xa1 xa2
    have Z := Lib.hid (heap_below Bla.out hb12)
    clear Bla
    have Bla := Z
    clear Z
    have Z := Lib.hid (AlAt.below KV.out hb12)
    clear KV
    have KV := Z
    clear Z
    have BB13 := Lib.hid (bThen BB10.out hb12)
    clear hb12
    go_wp2_with fail
    go_ret
    exact ⟨rfl, BB13.out⟩
  · have t1 : decide (i < 0) = false := by simpa using h1
    by_cases h2 : (lg : Int) ≤ i
    · have t2 : decide ((lg : Int) ≤ i) = true := by simpa using h2
      go_wp2_with fail
      refine (aalive_any _).mono ?_
      rintro e w11 ⟨rfl, hb12⟩
      clear za fa xa0 xa1 xa2
      have Z := Lib.hid (heap_below Bla.out hb12)
      clear Bla
      have Bla := Z
      clear Z
      have Z := Lib.hid (AlAt.below KV.out hb12)
      clear KV
      have KV := Z
      clear Z
      have BB13 := Lib.hid (bThen BB10.out hb12)
      clear hb12
      go_wp2_with fail
      go_ret
      exact ⟨rfl, BB13.out⟩
    · have t2 : decide ((lg : Int) ≤ i) = false := by simpa using h2
      go_wp2_with fail
      refine (aalive_any _).mono ?_
      rintro e w11 ⟨rfl, hb12⟩
      clear za fa xa0 xa1 xa2
      have Z := Lib.hid (heap_below Bla.out hb12)
      clear Bla
      have Bla := Z
      clear Z
      have Z := Lib.hid (AlAt.below KV.out hb12)
      clear KV
      have KV := Z
      clear Z
      have BB13 := Lib.hid (bThen BB10.out hb12)
      clear hb12
      have za := blk_lt Bla.out
      have xa0 := cellsAt Bla.out 0
      have xa1 := cellsAt Bla.out 1
      have xa2 := cellsAt Bla.out 2
      have fa := frozAt Bla.out
      simp at xa0 xa1 xa2
      go_wp2_with fail
      obtain ⟨NI, rfl⟩ : ∃ NI : Nat, i = NI := ⟨i.toNat, by omega⟩
      have hNi : (0 : Int) ≤ (NI : Int) := by omega
      have hNi2 : (NI : Int) < (lg : Int) := by omega
      have hNl : NI < lg := by omega
      have hlgh : lh = lg := by rw [← HLH.out, ← HLG.out]; exact ((right_P a).1 Hq.out).lh
      subst hlgh
      have hl8 : lh ≤ 8 := by rw [← HLG.out]; exact ((right_P a).1 Hq.out).l8
      have OF := Lib.hid (off_arg HV.out (by rw [HLH.out]; omega) (Nat.le_refl _))
      have hge1 : w.heap.size ≤ w.heap.size := Nat.le_refl _
      clear za fa xa0 xa1 xa2
      go_loopw [41] (fun j wr => HoldRel l.length w.heap.size lh w j wr) (fun j _ => l.length - (intOf j).toNat)
      case atStart => exact ⟨0, a, _, _, _, _, Nat.zero_le _, rfl, Bla.out, KV.out, Hq.out, HLG.out, OF.out, BB13.out⟩
      case round =>
        obtain ⟨k, a1, D1, d1, D2, d2, hk, rfl, hblk, hka, hr1, hlen1, hof, hbel⟩ := hrel
        clear KV Bla OF HS HR Hq
        have HB := Lib.hid hbel
        have Bla := Lib.hid hblk
        have KA := Lib.hid hka
        have OF := Lib.hid hof
        have HR1 := Lib.hid hr1
        have HLN := Lib.hid hlen1
        clear hbel hblk hka hof hr1 hlen1
        have HRM := Lib.hid (fun v W hW => aroom_any a1 (NI : Int) HI.out v W hW)
        obtain ⟨r, hr⟩ : ∃ r, roomA a1 (NI : Int) = r := ⟨_, rfl⟩
        have hrin := room_in a1 (NI : Int)
        rw [hr] at HRM hrin
        have Hr := Lib.hid hr
        clear hr
        have HL := Lib.hid (RowI.below HL0.out HB.out)
        by_cases hlt : k < l.length
        · obtain ⟨x, hi⟩ : ∃ x, l[k]? = some x := ⟨_, List.getElem?_eq_getElem hlt⟩
          obtain ⟨b', o', c', e', hc', hb', hX⟩ := HL.out.1.at_ hi
          injection e' with e1 _ e3
          subst e1 e3
          have hxw := HL.out.2.1 x (List.mem_of_getElem? hi)
          have HXW := Lib.hid hxw
          have c0 := hX 0 _ rfl
          have c1 := hX 1 _ rfl
          have c2 := hX 2 _ rfl
          have c3 := hX 3 _ rfl
          have c4 := hX 4 _ rfl
          have c5 := hX 5 _ rfl
          have c6 := hX 6 _ rfl
          have c7 := hX 7 _ rfl
          have c8 := hX 8 _ rfl
          have c9 := hX 9 _ rfl
          have c10 := hX 10 _ rfl
          clear hX hi hxw
          obtain ⟨y0, y1, y2, y3, y4, y5, y6, y7, y8, y9, y10⟩ := x
          simp only [Nat.add_zero] at c0 c1 c2 c3 c4 c5 c6 c7 c8 c9 c10
          go_upto_region 6 with fail
          clear c0 c1 c2 c3 c4 c5 c6 c7 c8 c9 c10
          obtain ⟨W14, hW15⟩ : ∃ X, X = (wr).alloc (.cells #[.int .i64 y0, .string y1, .int .i64 y2, .int .i64 y3, .int .i64 y4, .int .i64 y5, .int .i64 y6, .int .i64 y7, .string y8, .int .i64 y9, .int .i64 y10] 43) := ⟨_, rfl⟩
          rw [← hW15]
          have hb16 : Below wr.heap.size wr W14 := by rw [hW15]; exact bel_alloc (Below.refl _ _) _
          have Nx := Lib.hid (show W14.heap[wr.heap.size]? = some (.cells #[.int .i64 y0, .string y1, .int .i64 y2, .int .i64 y3, .int .i64 y4, .int .i64 y5, .int .i64 y6, .int .i64 y7, .string y8, .int .i64 y9, .int .i64 y10] 43 (0, 0)) by rw [hW15]; exact heap_at (wr) _ (wr.heap.size) (by simp))
          clear hW15
          have Z := Lib.hid (heap_below Bla.out hb16)
          clear Bla
          have Bla := Z
          clear Z
          have Z := Lib.hid (AlAt.below KA.out hb16)
          clear KA
          have KA := Z
          clear Z
          have Z := Lib.hid (RowI.below HL.out hb16)
          clear HL
          have HL := Z
          clear Z
          have BB17 := Lib.hid (bThen HB.out hb16)
          clear hb16
          have Blx := Nx
          clear Nx
          have za := blk_lt Bla.out
          have xa0 := cellsAt Bla.out 0
          have xa1 := cellsAt Bla.out 1
          have xa2 := cellsAt Bla.out 2
          have fa := frozAt Bla.out
          simp at xa0 xa1 xa2
          have zx := blk_lt Blx.out
          have xx0 := cellsAt Blx.out 0
          have xx1 := cellsAt Blx.out 1
          have xx2 := cellsAt Blx.out 2
          have xx3 := cellsAt Blx.out 3
          have xx4 := cellsAt Blx.out 4
          have xx5 := cellsAt Blx.out 5
          have xx6 := cellsAt Blx.out 6
          have xx7 := cellsAt Blx.out 7
          have xx8 := cellsAt Blx.out 8
          have xx9 := cellsAt Blx.out 9
          have xx10 := cellsAt Blx.out 10
          have fx := frozAt Blx.out
          simp at xx0 xx1 xx2 xx3 xx4 xx5 xx6 xx7 xx8 xx9 xx10
          by_cases h40 : 40 ≤ (k : Int)
          · have t40 : decide (40 ≤ (k : Int)) = true := by simpa using h40
            clear za fa xa0 xa1 xa2 zx fx xx0 xx1 xx2 xx3 xx4 xx5 xx6 xx7 xx8 xx9 xx10
            have za := blk_lt Bla.out
            have xa0 := cellsAt Bla.out 0
            have xa1 := cellsAt Bla.out 1
            have xa2 := cellsAt Bla.out 2
            have fa := frozAt Bla.out
            simp at xa0 xa1 xa2
            go_wp2_with fail
            have t8 : decide (0 ≤ r) = true := by simp; omega
            have t9 : decide (r ≤ 16) = true := by simp; omega
            refine (HRM.out _ _ KA.out).mono ?_
            rintro e w18 ⟨rfl, hb19⟩
            clear za fa xa0 xa1 xa2
            have Z := Lib.hid (heap_below Bla.out hb19)
            clear Bla
            have Bla := Z
            clear Z
            have Z := Lib.hid (heap_below Blx.out hb19)
            clear Blx
            have Blx := Z
            clear Z
            have Z := Lib.hid (AlAt.below KA.out hb19)
            clear KA
            have KA := Z
            clear Z
            have Z := Lib.hid (RowI.below HL.out hb19)
            clear HL
            have HL := Z
            clear Z
            have BB20 := Lib.hid (bThen BB17.out hb19)
            clear hb19
            have za := blk_lt Bla.out
            have xa0 := cellsAt Bla.out 0
            have xa1 := cellsAt Bla.out 1
            have xa2 := cellsAt Bla.out 2
            have fa := frozAt Bla.out
            simp at xa0 xa1 xa2
            go_wp2_with fail
            refine (HRM.out _ _ KA.out).mono ?_
            rintro e w21 ⟨rfl, hb22⟩
            clear za fa xa0 xa1 xa2
            have Z := Lib.hid (heap_below Bla.out hb22)
            clear Bla
            have Bla := Z
            clear Z
            have Z := Lib.hid (heap_below Blx.out hb22)
            clear Blx
            have Blx := Z
            clear Z
            have Z := Lib.hid (AlAt.below KA.out hb22)
            clear KA
            have KA := Z
            clear Z
            have Z := Lib.hid (RowI.below HL.out hb22)
            clear HL
            have HL := Z
            clear Z
            have BB23 := Lib.hid (bThen BB20.out hb22)
            clear hb22
            go_wp2_with fail
            go_ret
            exact ⟨rfl, BB23.out⟩
          · have t40 : decide (40 ≤ (k : Int)) = false := by simpa using h40
            go_wp2_with fail
            refine (HRM.out _ _ KA.out).mono ?_
            rintro e w18 ⟨rfl, hb19⟩
            clear za fa xa0 xa1 xa2 zx fx xx0 xx1 xx2 xx3 xx4 xx5 xx6 xx7 xx8 xx9 xx10
            have Z := Lib.hid (heap_below Bla.out hb19)
            clear Bla
            have Bla := Z
            clear Z
            have Z := Lib.hid (heap_below Blx.out hb19)
            clear Blx
            have Blx := Z
            clear Z
            have Z := Lib.hid (AlAt.below KA.out hb19)
            clear KA
            have KA := Z
            clear Z
            have Z := Lib.hid (RowI.below HL.out hb19)
            clear HL
            have HL := Z
            clear Z
            have BB20 := Lib.hid (bThen BB17.out hb19)
            clear hb19
            have za := blk_lt Bla.out
            have xa0 := cellsAt Bla.out 0
            have xa1 := cellsAt Bla.out 1
            have xa2 := cellsAt Bla.out 2
            have fa := frozAt Bla.out
            simp at xa0 xa1 xa2
            have zx := blk_lt Blx.out
            have xx0 := cellsAt Blx.out 0
            have xx1 := cellsAt Blx.out 1
            have xx2 := cellsAt Blx.out 2
            have xx3 := cellsAt Blx.out 3
            have xx4 := cellsAt Blx.out 4
            have xx5 := cellsAt Blx.out 5
            have xx6 := cellsAt Blx.out 6
            have xx7 := cellsAt Blx.out 7
            have xx8 := cellsAt Blx.out 8
            have xx9 := cellsAt Blx.out 9
            have xx10 := cellsAt Blx.out 10
            have fx := frozAt Blx.out
            simp at xx0 xx1 xx2 xx3 xx4 xx5 xx6 xx7 xx8 xx9 xx10
            go_wp2_with fail
            have HO := offer_any a1 (NI : Int) HI.out ⟨y0, y1, y2, y3, y4, y5, y6, y7, y8, y9, y10⟩ HXW.out _ _ KA.out
            have HC := ofer_cases a1 (NI : Int) ⟨y0, y1, y2, y3, y4, y5, y6, y7, y8, y9, y10⟩ HR1.out hNi (by rw [HLN.out]; exact hNi2)
            obtain ⟨⟨ra, rp, rd, rl, re⟩, hR⟩ : ∃ R, ofer a1 (NI : Int) ⟨y0, y1, y2, y3, y4, y5, y6, y7, y8, y9, y10⟩ = R := ⟨_, rfl⟩
            rw [hR] at HO HC
            clear hR
            unfold itV at HO
            simp only [Int.toNat_natCast] at HC
            refine HO.mono ?_
            rintro e w21 ⟨⟨v2, a2, vl, rfl, ha2, hl2, hof2, hrow⟩, hb22⟩
            have OF2 := Lib.hid (hof2 w.heap.size (blk_lt Bla.out) OF.out)
            clear hof2
            have HC2 := Lib.hid HC
            clear HC
            clear za fa xa0 xa1 xa2 zx fx xx0 xx1 xx2 xx3 xx4 xx5 xx6 xx7 xx8 xx9 xx10
            have Z := Lib.hid (heap_below Bla.out hb22)
            clear Bla
            have Bla := Z
            clear Z
            have Z := Lib.hid (heap_below Blx.out hb22)
            clear Blx
            have Blx := Z
            clear Z
            have Z := Lib.hid (AlAt.below KA.out hb22)
            clear KA
            have KA := Z
            clear Z
            have Z := Lib.hid (RowI.below HL.out hb22)
            clear HL
            have HL := Z
            clear Z
            have BB23 := Lib.hid (bThen BB20.out hb22)
            clear hb22
            obtain ⟨B1, d3, B2, d4, rfl⟩ := al_form4 ha2
            have KB := Lib.hid ha2
            have HLK := Lib.hid hl2
            have HRW := Lib.hid hrow
            clear ha2 hl2 hrow
            obtain ⟨Al, cl, rfl⟩ := row_form HRW.out
            clear HRW
            obtain ⟨g, hg⟩ : ∃ g, a1.got[NI]? = some g := ⟨_, List.getElem?_eq_getElem (by rw [HLN.out]; exact hNl)⟩
            have HG := Lib.hid hg
            rw [get_bang hg] at HC2
            clear hg
            obtain ⟨bg, og, rfl⟩ := got_some KA.out (by rw [HLN.out]; omega)
            have za := blk_lt Bla.out
            have xa0 := cellsAt Bla.out 0
            have xa1 := cellsAt Bla.out 1
            have xa2 := cellsAt Bla.out 2
            have fa := frozAt Bla.out
            simp at xa0 xa1 xa2
            have zx := blk_lt Blx.out
            have xx0 := cellsAt Blx.out 0
            have xx1 := cellsAt Blx.out 1
            have xx2 := cellsAt Blx.out 2
            have xx3 := cellsAt Blx.out 3
            have xx4 := cellsAt Blx.out 4
            have xx5 := cellsAt Blx.out 5
            have xx6 := cellsAt Blx.out 6
            have xx7 := cellsAt Blx.out 7
            have xx8 := cellsAt Blx.out 8
            have xx9 := cellsAt Blx.out 9
            have xx10 := cellsAt Blx.out 10
            have fx := frozAt Blx.out
            simp at xx0 xx1 xx2 xx3 xx4 xx5 xx6 xx7 xx8 xx9 xx10
            go_upto_region 9 with fail
            obtain ⟨W24, hW25⟩ : ∃ X, X = (w21).alloc (.cells #[.int .i64 a2.n, .slice B1 a2.got.length d3, .slice B2 a2.held.length d4] 26) := ⟨_, rfl⟩
            rw [← hW25]
            have hb26 : Below w21.heap.size w21 W24 := by rw [hW25]; exact bel_alloc (Below.refl _ _) _
            have Nb := Lib.hid (show W24.heap[w21.heap.size]? = some (.cells #[.int .i64 a2.n, .slice B1 a2.got.length d3, .slice B2 a2.held.length d4] 26 (0, 0)) by rw [hW25]; exact heap_at (w21) _ (w21.heap.size) (by simp))
            clear hW25
            have Z := Lib.hid (heap_below Bla.out hb26)
            clear Bla
            have Bla := Z
            clear Z
            have Z := Lib.hid (heap_below Blx.out hb26)
            clear Blx
            have Blx := Z
            clear Z
            have Z := Lib.hid (AlAt.below KA.out hb26)
            clear KA
            have KA := Z
            clear Z
            have Z := Lib.hid (RowI.below HL.out hb26)
            clear HL
            have HL := Z
            clear Z
            have Z := Lib.hid (AlAt.below KB.out hb26)
            clear KB
            have KB := Z
            clear Z
            have BB27 := Lib.hid (bThen BB23.out hb26)
            clear hb26
            have Blb := Nb
            clear Nb
            obtain ⟨hbg, cg0⟩ := got_at KA.out HG.out
            clear za fa xa0 xa1 xa2 zx fx xx0 xx1 xx2 xx3 xx4 xx5 xx6 xx7 xx8 xx9 xx10
            have za := blk_lt Bla.out
            have xa0 := cellsAt Bla.out 0
            have xa1 := cellsAt Bla.out 1
            have xa2 := cellsAt Bla.out 2
            have fa := frozAt Bla.out
            simp at xa0 xa1 xa2
            have zx := blk_lt Blx.out
            have xx0 := cellsAt Blx.out 0
            have xx1 := cellsAt Blx.out 1
            have xx2 := cellsAt Blx.out 2
            have xx3 := cellsAt Blx.out 3
            have xx4 := cellsAt Blx.out 4
            have xx5 := cellsAt Blx.out 5
            have xx6 := cellsAt Blx.out 6
            have xx7 := cellsAt Blx.out 7
            have xx8 := cellsAt Blx.out 8
            have xx9 := cellsAt Blx.out 9
            have xx10 := cellsAt Blx.out 10
            have fx := frozAt Blx.out
            simp at xx0 xx1 xx2 xx3 xx4 xx5 xx6 xx7 xx8 xx9 xx10
            have zb := blk_lt Blb.out
            have xb0 := cellsAt Blb.out 0
            have xb1 := cellsAt Blb.out 1
            have xb2 := cellsAt Blb.out 2
            have fb := frozAt Blb.out
            simp at xb0 xb1 xb2
            rcases HC2.out with ⟨hre, hok⟩ | ⟨hre, hgt, hr0⟩ | hre | hre
            · subst hre
              have ha2r : rightA a2 = true := by rw [likeA_right HLK.out]; exact hok.right
              have ha2l : a2.got.length = lh := by rw [HLK.out.2.1, ← HLN.out]; exact hok.len
              have ha2h : a2.held.length = lh := by rw [← ha2l]; exact ((right_P a2).1 ha2r).lh
              have hrm : roomA a2 (NI : Int) = roomA ra (NI : Int) := likeA_room HLK.out _
              have HOK := Lib.hid hok
              have HA2R := Lib.hid ha2r
              have HA2L := Lib.hid ha2l
              have HRM2 := Lib.hid hrm
              rw [ha2l] at KB Blb xb1 OF2 ⊢
              rw [ha2h] at KB Blb xb2 OF2 ⊢
              clear hok ha2r ha2l ha2h hrm
              cases g with
              | true =>
                obtain ⟨hp, hd, hr2, hr3⟩ := HOK.out.held (by simpa using get_bang HG.out)
                simp only at hp hd hr3
                subst hp hd
                rw [Hr.out] at hr2 hr3
                have t7 : decide (r < 1) = false := by simp; omega
                have hw1 : IntKind.i64.wrap (r - 1) = r - 1 := by rw [IntKind.wrap_i64]; omega
                have CB := Lib.hid (fun v W hW => aroom_any a2 (NI : Int) HI.out v W hW)
                rw [HRM2.out, hr3] at CB
                clear hr3
                go_wp2_with fail
                refine (CB.out _ _ KB.out).mono ?_
                rintro e w28 ⟨rfl, hb29⟩
                clear za fa xa0 xa1 xa2 zx fx xx0 xx1 xx2 xx3 xx4 xx5 xx6 xx7 xx8 xx9 xx10 zb fb xb0 xb1 xb2
                have Z := Lib.hid (heap_below Bla.out hb29)
                clear Bla
                have Bla := Z
                clear Z
                have Z := Lib.hid (heap_below Blx.out hb29)
                clear Blx
                have Blx := Z
                clear Z
                have Z := Lib.hid (heap_below Blb.out hb29)
                clear Blb
                have Blb := Z
                clear Z
                have Z := Lib.hid (AlAt.below KA.out hb29)
                clear KA
                have KA := Z
                clear Z
                have Z := Lib.hid (RowI.below HL.out hb29)
                clear HL
                have HL := Z
                clear Z
                have Z := Lib.hid (AlAt.below KB.out hb29)
                clear KB
                have KB := Z
                clear Z
                have BB30 := Lib.hid (bThen BB27.out hb29)
                clear hb29
                have za := blk_lt Bla.out
                have xa0 := cellsAt Bla.out 0
                have xa1 := cellsAt Bla.out 1
                have xa2 := cellsAt Bla.out 2
                have fa := frozAt Bla.out
                simp at xa0 xa1 xa2
                have zx := blk_lt Blx.out
                have xx0 := cellsAt Blx.out 0
                have xx1 := cellsAt Blx.out 1
                have xx2 := cellsAt Blx.out 2
                have xx3 := cellsAt Blx.out 3
                have xx4 := cellsAt Blx.out 4
                have xx5 := cellsAt Blx.out 5
                have xx6 := cellsAt Blx.out 6
                have xx7 := cellsAt Blx.out 7
                have xx8 := cellsAt Blx.out 8
                have xx9 := cellsAt Blx.out 9
                have xx10 := cellsAt Blx.out 10
                have fx := frozAt Blx.out
                simp at xx0 xx1 xx2 xx3 xx4 xx5 xx6 xx7 xx8 xx9 xx10
                have zb := blk_lt Blb.out
                have xb0 := cellsAt Blb.out 0
                have xb1 := cellsAt Blb.out 1
                have xb2 := cellsAt Blb.out 2
                have fb := frozAt Blb.out
                simp at xb0 xb1 xb2
                go_wp2_with fail
                refine (aright_any a2 _ _ KB.out true HA2R.out).mono ?_
                rintro e w31 ⟨rfl, hb32⟩
                clear za fa xa0 xa1 xa2 zx fx xx0 xx1 xx2 xx3 xx4 xx5 xx6 xx7 xx8 xx9 xx10 zb fb xb0 xb1 xb2
                have Z := Lib.hid (heap_below Bla.out hb32)
                clear Bla
                have Bla := Z
                clear Z
                have Z := Lib.hid (heap_below Blx.out hb32)
                clear Blx
                have Blx := Z
                clear Z
                have Z := Lib.hid (heap_below Blb.out hb32)
                clear Blb
                have Blb := Z
                clear Z
                have Z := Lib.hid (AlAt.below KA.out hb32)
                clear KA
                have KA := Z
                clear Z
                have Z := Lib.hid (RowI.below HL.out hb32)
                clear HL
                have HL := Z
                clear Z
                have Z := Lib.hid (AlAt.below KB.out hb32)
                clear KB
                have KB := Z
                clear Z
                have BB33 := Lib.hid (bThen BB30.out hb32)
                clear hb32
                have za := blk_lt Bla.out
                have xa0 := cellsAt Bla.out 0
                have xa1 := cellsAt Bla.out 1
                have xa2 := cellsAt Bla.out 2
                have fa := frozAt Bla.out
                simp at xa0 xa1 xa2
                have zx := blk_lt Blx.out
                have xx0 := cellsAt Blx.out 0
                have xx1 := cellsAt Blx.out 1
                have xx2 := cellsAt Blx.out 2
                have xx3 := cellsAt Blx.out 3
                have xx4 := cellsAt Blx.out 4
                have xx5 := cellsAt Blx.out 5
                have xx6 := cellsAt Blx.out 6
                have xx7 := cellsAt Blx.out 7
                have xx8 := cellsAt Blx.out 8
                have xx9 := cellsAt Blx.out 9
                have xx10 := cellsAt Blx.out 10
                have fx := frozAt Blx.out
                simp at xx0 xx1 xx2 xx3 xx4 xx5 xx6 xx7 xx8 xx9 xx10
                have zb := blk_lt Blb.out
                have xb0 := cellsAt Blb.out 0
                have xb1 := cellsAt Blb.out 1
                have xb2 := cellsAt Blb.out 2
                have fb := frozAt Blb.out
                simp at xb0 xb1 xb2
                go_wp2_with fail
                go_roundw
                case rel => exact ⟨k + 1, a2, B1, d3, B2, d4, by omega, by go_num, set3 Bla.out _ _ _, KB.out.keepBox Bla.out OF2.out (cell_set3 _ _ _ _ _) (by simp), HA2R.out, HA2L.out, OF2.out, bel3 BB33.out hge1 _ _ _⟩
                case measure => simp [intOf]; omega
              | false =>
                go_wp2_with fail
                refine (aright_any a2 _ _ KB.out true HA2R.out).mono ?_
                rintro e w28 ⟨rfl, hb29⟩
                clear za fa xa0 xa1 xa2 zx fx xx0 xx1 xx2 xx3 xx4 xx5 xx6 xx7 xx8 xx9 xx10 zb fb xb0 xb1 xb2
                have Z := Lib.hid (heap_below Bla.out hb29)
                clear Bla
                have Bla := Z
                clear Z
                have Z := Lib.hid (heap_below Blx.out hb29)
                clear Blx
                have Blx := Z
                clear Z
                have Z := Lib.hid (heap_below Blb.out hb29)
                clear Blb
                have Blb := Z
                clear Z
                have Z := Lib.hid (AlAt.below KA.out hb29)
                clear KA
                have KA := Z
                clear Z
                have Z := Lib.hid (RowI.below HL.out hb29)
                clear HL
                have HL := Z
                clear Z
                have Z := Lib.hid (AlAt.below KB.out hb29)
                clear KB
                have KB := Z
                clear Z
                have BB30 := Lib.hid (bThen BB27.out hb29)
                clear hb29
                have za := blk_lt Bla.out
                have xa0 := cellsAt Bla.out 0
                have xa1 := cellsAt Bla.out 1
                have xa2 := cellsAt Bla.out 2
                have fa := frozAt Bla.out
                simp at xa0 xa1 xa2
                have zx := blk_lt Blx.out
                have xx0 := cellsAt Blx.out 0
                have xx1 := cellsAt Blx.out 1
                have xx2 := cellsAt Blx.out 2
                have xx3 := cellsAt Blx.out 3
                have xx4 := cellsAt Blx.out 4
                have xx5 := cellsAt Blx.out 5
                have xx6 := cellsAt Blx.out 6
                have xx7 := cellsAt Blx.out 7
                have xx8 := cellsAt Blx.out 8
                have xx9 := cellsAt Blx.out 9
                have xx10 := cellsAt Blx.out 10
                have fx := frozAt Blx.out
                simp at xx0 xx1 xx2 xx3 xx4 xx5 xx6 xx7 xx8 xx9 xx10
                have zb := blk_lt Blb.out
                have xb0 := cellsAt Blb.out 0
                have xb1 := cellsAt Blb.out 1
                have xb2 := cellsAt Blb.out 2
                have fb := frozAt Blb.out
                simp at xb0 xb1 xb2
                go_wp2_with fail
                go_roundw
                case rel => exact ⟨k + 1, a2, B1, d3, B2, d4, by omega, by go_num, set3 Bla.out _ _ _, KB.out.keepBox Bla.out OF2.out (cell_set3 _ _ _ _ _) (by simp), HA2R.out, HA2L.out, OF2.out, bel3 BB30.out hge1 _ _ _⟩
                case measure => simp [intOf]; omega
            · subst hre
              rw [Hr.out] at hr0
              subst hr0
              subst hgt
              go_wp2_with fail
              go_roundw
              case rel => exact ⟨k + 1, a1, some ⟨bg, og, none⟩, d1, D2, d2, by omega, by go_num, Bla.out, KA.out, HR1.out, HLN.out, OF.out, BB27.out⟩
              case measure => simp [intOf]; omega
            · subst hre
              go_wp2_with fail
              go_roundw
              case rel => exact ⟨k + 1, a1, some ⟨bg, og, none⟩, d1, D2, d2, by omega, by go_num, Bla.out, KA.out, HR1.out, HLN.out, OF.out, BB27.out⟩
              case measure => simp [intOf]; omega
            · subst hre
              go_wp2_with fail
              go_roundw
              case rel => exact ⟨k + 1, a1, some ⟨bg, og, none⟩, d1, D2, d2, by omega, by go_num, Bla.out, KA.out, HR1.out, HLN.out, OF.out, BB27.out⟩
              case measure => simp [intOf]; omega
        · obtain rfl : k = l.length := by omega
          have za := blk_lt Bla.out
          have xa0 := cellsAt Bla.out 0
          have xa1 := cellsAt Bla.out 1
          have xa2 := cellsAt Bla.out 2
          have fa := frozAt Bla.out
          simp at xa0 xa1 xa2
          go_wp2_with fail
          have t8 : decide (0 ≤ r) = true := by simp; omega
          have t9 : decide (r ≤ 16) = true := by simp; omega
          refine (HRM.out _ _ KA.out).mono ?_
          rintro e w14 ⟨rfl, hb15⟩
          clear za fa xa0 xa1 xa2
          have Z := Lib.hid (heap_below Bla.out hb15)
          clear Bla
          have Bla := Z
          clear Z
          have Z := Lib.hid (AlAt.below KA.out hb15)
          clear KA
          have KA := Z
          clear Z
          have Z := Lib.hid (RowI.below HL.out hb15)
          clear HL
          have HL := Z
          clear Z
          have BB16 := Lib.hid (bThen HB.out hb15)
          clear hb15
          have za := blk_lt Bla.out
          have xa0 := cellsAt Bla.out 0
          have xa1 := cellsAt Bla.out 1
          have xa2 := cellsAt Bla.out 2
          have fa := frozAt Bla.out
          simp at xa0 xa1 xa2
          go_wp2_with fail
          refine (HRM.out _ _ KA.out).mono ?_
          rintro e w17 ⟨rfl, hb18⟩
          clear za fa xa0 xa1 xa2
          have Z := Lib.hid (heap_below Bla.out hb18)
          clear Bla
          have Bla := Z
          clear Z
          have Z := Lib.hid (AlAt.below KA.out hb18)
          clear KA
          have KA := Z
          clear Z
          have Z := Lib.hid (RowI.below HL.out hb18)
          clear HL
          have HL := Z
          clear Z
          have BB19 := Lib.hid (bThen BB16.out hb18)
          clear hb18
          go_wp2_with fail
          go_ret
          exact ⟨rfl, BB19.out⟩
end Go.Proofs.Ytenpgkkefielfaa
