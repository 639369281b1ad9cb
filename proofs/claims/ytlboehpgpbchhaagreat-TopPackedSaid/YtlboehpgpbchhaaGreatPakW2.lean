/-
  WALKS of the top laws: results that are packed and read again.
-/
import Derived.Test.YtlboehpgpbchhaaGreatTopW23
import Derived.Test.YtlboehpgpbchhaaGreatPakP
import Derived.Test.YtlboehpgpbchhaaGreatPakArgs
import Derived.Deep.RegionLaw
set_option linter.unusedVariables false
set_option linter.unusedSimpArgs false
namespace Go.Proofs.YtlboehpgpbchhaaGreat
open Go.RowKit

theorem row_take {α : Type} {enc : α → List Value} {k : Nat} {W : World} {l : List α} {A : Option Addr} {c m : Nat} (h : Row enc k W (.slice A l.length c) l) (hm : m ≤ l.length) : Row enc k W (.slice A m c) (l.take m) := by
  obtain ⟨A', c', e, hc, hx⟩ := h
  injection e with e1 e2 e3
  subst e1 e3
  have hlen : (l.take m).length = m := by rw [List.length_take]; omega
  refine ⟨A, c, by rw [hlen], by omega, fun hl => ?_⟩
  rw [hlen] at hl
  obtain ⟨b, o, ha, hb, hX⟩ := hx (by omega)
  refine ⟨b, o, ha, hb, fun i x j u h1 h2 => hX i x j u ?_ h2⟩
  rw [List.getElem?_take] at h1
  split at h1
  · exact h1
  · cases h1
theorem in1_of {w : World} {A : Option Addr} {c m g : Nat} {l : List Ev} {T : TypeId} (hr : Row Ev.cs 3 w (.slice A m c) l) (hm : l.length = m) (hw : ∀ x ∈ l, x.Wf) (hl : l.length ≤ maxLen) (hg : w.heap.size = g) :
    In1 (w.alloc (.cells #[.slice A m c] T)).drew (.slice (some ⟨g, 0, none⟩) 1 1) l := by
  subst hm hg
  have h2 := heap_at w (.cells #[.slice A l.length c] T (0, 0)) w.heap.size rfl
  exact ⟨⟨w.heap.size, 0, 1, A, c, rfl, blk_lt h2, cellsAt h2 0, hr.alloc _⟩, hw, hl⟩
set_option maxRecDepth 100000 in
set_option maxHeartbeats 4000000 in
theorem packed_walk (W : World) (j : Jb) (v : Value) (l : List Ev) (hj : JIn j) (hv : EvIn W v l) :
    Calls Tryz.prog 3 #[.agg j.cs, v] W fun e W' => e = .returned (.bool true) ∧ Below W.heap.size W W' := by
  obtain ⟨hr, hw, hl⟩ := hv
  have HR := Lib.hid hr
  have HW := Lib.hid hw
  have HJ := Lib.hid hj
  have HAL := Lib.hid alive_any
  obtain ⟨A, c, rfl, hc, -⟩ := hr
  obtain ⟨n, hn⟩ : ∃ n, l.length = n := ⟨_, rfl⟩
  have HN := Lib.hid hn
  rw [hn] at HR hl hc ⊢
  unfold maxLen at hl
  obtain ⟨m, hm⟩ : ∃ m, min n 20 = m := ⟨_, rfl⟩
  have hmn : min (n : Int) 20 = (m : Int) := by omega
  have hm1 : m ≤ n := by omega
  have hm2 : m ≤ 20 := by omega
  have hmc : m ≤ c := by omega
  have HM := Lib.hid hm
  clear hm hw hn hj
  obtain ⟨jg, js, jd, jf, ju, jl, jy, ji⟩ := j
  simp only [Jb.cs]
  go_enter Tryz.func3, Tryz.ntmps3
  go_wp2_with fail
  have hlt : (l.take m).length = m := by rw [List.length_take, HN.out]; omega
  have HIN := Lib.hid (in1_of (T := 24) (g := W.heap.size + 1) ((row_take (by rw [HN.out]; exact HR.out) (by rw [HN.out]; exact hm1)).alloc (.cells #[.int .i64 jg, .int .i64 js, .int .i64 jd, .int .i64 jf, .int .i64 ju, .int .i64 jl, .int .i64 jy, .int .i64 ji] 23)) hlt (fun x hx => HW.out x (List.mem_of_mem_take hx)) (by rw [hlt]; unfold maxLen; omega) (by simp))
  go_cut [5, 6] (fun p e W1 => ∃ (A2 : Option Addr) (c2 : Nat) (er : Int) (qs : List (Pn × Int)) (g0 : Nat), p = .slice A2 qs.length c2 ∧ e = .int .i64 er ∧ rsOk qs ∧ W1.ownsRow g0 37 5 (.slice A2 qs.length c2) qs.length (qs.flatMap rsOf) ∧ Below W.heap.size W W1)
  case first =>
    go_region_law (go_simp; go_at_call 5; refine (run_any ⟨jg, js, jd, jf, ju, jl, jy, ji⟩ (l.take m) _ _ HIN.out HJ.out.s).mono ?_; rintro e w2 ⟨v2, er, qs, rfl, hown, hrs, -, hb2⟩; obtain ⟨A2, c2, rfl⟩ := own_slice hown)
    all_goals
      go_wp2_with fail
      go_meet
      exact ⟨A2, c2, er, qs, _, rfl, rfl, hrs, hown, bThen (Below.drew (bel_alloc (bel_alloc (Below.refl _ _) _) _)) hb2⟩
  case rest =>
    obtain ⟨A2, c2, er, qs, g0, rfl, rfl, hrs, hown, hbel⟩ := hcut
    have HB1 := Lib.hid hbel
    have HER := Lib.hid (show er = er from rfl)
    obtain ⟨L, hL⟩ : ∃ L, L = qs.map resOf := ⟨_, rfl⟩
    obtain ⟨nq, hnq⟩ : ∃ n, qs.length = n := ⟨_, rfl⟩
    have HOK := Lib.hid (show ∀ r ∈ L, ResOk r by rw [hL]; intro r hr; obtain ⟨q, hq, rfl⟩ := List.mem_map.1 hr; exact res_ok (hrs.2 q hq))
    have HLN := Lib.hid (show L.length = nq by rw [hL, List.length_map]; exact hnq)
    have HNQ := Lib.hid (show nq ≤ 2000 by rw [← hnq]; exact hrs.1)
    have HRW := Lib.hid (show Row Itm.Res.cs 5 wc (.slice A2 nq c2) L by rw [← hnq]; rw [rs_flat, ← hL] at hown; exact Row.of_own Itm.Res.cs_len hown (by rw [hL, List.length_map]))
    rw [hnq]
    clear hrs hown hbel hL hnq HIN HAL HJ HR HW HN HM hlt
    by_cases her : er = 0
    · subst her
      go_wp2_with (go_at_call 6; refine (alive_any _).mono ?_; rintro e w5 ⟨rfl, hb5⟩)
      have HB5 := Lib.hid (bThen HB1.out hb5)
      have HROW := Lib.hid (HRW.out.below hb5)
      clear hb5 HRW HB1
      go_loopw [8, 44] (fun row i wr => PkRel L w5 row i wr) (fun _ i _ => nq - (intOf i).toNat)
      case atStart => exact ⟨0, Nat.zero_le _, rfl, by simp [Sel.rowB, Sel.rowL], ⟨_, _, _, heap_at _ _ _ rfl, snk_zero _⟩, bel_alloc (Below.refl _ _) _⟩
      case round =>
        obtain ⟨k, hk, rfl, rfl, ⟨vo, vs, vu, hbox, hsnk⟩, hbel⟩ := hrel
        rw [HLN.out] at hk
        have HBEL := Lib.hid hbel
        obtain ⟨P1, d1, P2, d2, P3, d3, ev⟩ := Itm.sink_form hsnk
        injection ev with ev
        injection ev with ev
        simp at ev
        obtain ⟨rfl, rfl, rfl⟩ := ev
        have hlk : (L.take k).length = k := by rw [List.length_take, HLN.out]; omega
        rw [show min k L.length = k by rw [HLN.out]; omega] at hbox hsnk
        have HBOX := Lib.hid hbox
        have HSNK := Lib.hid hsnk
        clear hbox hsnk hbel
        by_cases hlt : k < nq
        · obtain ⟨x, hi⟩ : ∃ x, L[k]? = some x := ⟨_, List.getElem?_eq_getElem (by rw [HLN.out]; exact hlt)⟩
          have hxm : x ∈ L := List.mem_of_getElem? hi
          have hrow := HROW.out.below HBEL.out
          obtain ⟨b, o, c', hv', -, hb, hX⟩ := hrow.at_ hi
          rw [HLN.out] at hv'
          injection hv' with e1 e2 e3
          subst e1 e3
          have c0 := hX 0 _ rfl
          have c1 := hX 1 _ rfl
          have c2 := hX 2 _ rfl
          have c3 := hX 3 _ rfl
          have c4 := hX 4 _ rfl
          simp only [Nat.add_zero] at c0 c1 c2 c3 c4
          have htk : L.take (k + 1) = L.take k ++ [x] := by rw [List.take_add_one, hi]; rfl
          have HTK := Lib.hid htk
          have HLK := Lib.hid hlk
          have hokt : ∀ r ∈ L.take k, ResOk r := fun r hr => HOK.out r (List.mem_of_mem_take hr)
          have hsr := snk_right (op := L.take k) (by rw [hlk]; have := HNQ.out; omega) hokt
          have hsc := snk_cnt (L.take k) (by rw [hlk]; have := HNQ.out; omega)
          have HADD := Lib.hid (fun v w hv => Itm.sadd_yes (L.take k) [] 0 [] x v w hv hsr (HOK.out x hxm).may (HOK.out x hxm).wf (by rw [hsc, hlk]; have := HNQ.out; omega))
          have hsz := tOf_size (HOK.out x hxm)
          have hput := fun W => Itm.put_any (itOf x) (it_wf (HOK.out x hxm)) W (it_right (HOK.out x hxm))
          have hrb : (Sel.rowB ((L.take (k + 1)).map tOf)).size ≤ 230000 := rowB_le (tok_le (fun r hr => HOK.out r (List.mem_of_mem_take hr))) (by rw [List.length_map, List.length_take]; have := HNQ.out; omega)
          obtain ⟨R, hRe⟩ : ∃ R, Sel.rowB ((L.take k).map tOf) = R := ⟨_, rfl⟩
          obtain ⟨t, ht⟩ : ∃ t, tOf x = t := ⟨_, rfl⟩
          have hR2 : R ++ Sel.frm t = Sel.rowB ((L.take (k + 1)).map tOf) := by rw [← hRe, Sel.rowB_snoc, htk, List.map_append, ← ht]; rfl
          have hsum : R.size + (Sel.frm t).size ≤ 9223372036854775807 := by rw [← hR2, ByteArray.size_append] at hrb; omega
          have hadd := fun W => run_string_add_sum (P := Tryz.prog) W R (Sel.frm t) hsum
          have HR2 := Lib.hid hR2
          have HT := Lib.hid ht
          rw [show Itm.bytesI (itOf x) = t from ht] at hput
          rw [ht] at hsz
          have HSZ := Lib.hid hsz
          rw [hRe]
          obtain ⟨lo, hi5, ks, rn, rv⟩ := x
          have HPUT := Lib.hid (show ∀ W, Calls Tryz.prog 7 #[.agg #[.int .i64 5, .string ⟨#[]⟩, .int .i64 0, .int .i64 0, .int .i64 0, .int .i64 0, .int .i64 lo, .int .i64 hi5, .string ks, .int .i64 rn, .int .i64 rv]] W _ from hput)
          clear hRe hR2 hrb hsum ht hsz hX hrow hi hxm hlk htk hokt hsr hsc hput
          have hnq := HNQ.out
          go_wp2_with fail
          refine (HPUT.out _).mono ?_
          rintro e w8 ⟨rfl, hb8⟩
          have N8 := Itm.newA hb8
          have B8 := Lib.hid (show Below wr.heap.size wr w8 from belA (Below.refl _ _) hb8)
          have G8 := heap_below HBOX.out B8.out
          clear c0 c1 c2 c3 c4 hb8
          go_wp2_with fail
          refine (Sel.sput_yes t _ (by have := HSZ.out; omega)).mono ?_
          rintro e w9 ⟨rfl, hb9⟩
          have N9 := Lib.hid (heap_below N8 hb9)
          have G9 := Lib.hid (heap_below G8 hb9)
          have B9 := Lib.hid (bThen B8.out hb9)
          clear hb9 N8 G8 B8
          have y0 := cellsAt G9.out 0
          have y1 := cellsAt G9.out 1
          have y2 := cellsAt G9.out 2
          have y3 := cellsAt G9.out 3
          have x0 := cellsAt N9.out 0
          have x1 := cellsAt N9.out 1
          have x2 := cellsAt N9.out 2
          have x3 := cellsAt N9.out 3
          have x4 := cellsAt N9.out 4
          have z0 := blk_lt G9.out
          have z1 := blk_lt N9.out
          simp at y0 y1 y2 y3 x0 x1 x2 x3 x4
          go_wp2_with fail
          refine (HADD.out _ _ (HSNK.out.below B9.out)).mono ?_
          rintro e w10 ⟨v10, rfl, hs10, hb10, -⟩
          obtain ⟨Q1, f1, Q2, f2, Q3, f3, rfl⟩ := Itm.sink_form hs10
          have hl1 : (L.take k ++ [(⟨lo, hi5, ks, rn, rv⟩ : Itm.Res)]).length = k + 1 := by rw [List.length_append, HLK.out]; rfl
          rw [hl1] at hs10 ⊢
          rw [← HTK.out] at hs10
          simp only [List.length_nil] at hs10 ⊢
          clear hl1
          have G10 := Lib.hid (heap_below G9.out hb10)
          have B10 := Lib.hid (bThen B9.out hb10)
          have S10 := Lib.hid hs10
          clear y0 y1 y2 y3 x0 x1 x2 x3 x4 z0 z1 hs10 hb10 G9 B9 N9
          have y0 := cellsAt G10.out 0
          have y1 := cellsAt G10.out 1
          have y2 := cellsAt G10.out 2
          have y3 := cellsAt G10.out 3
          have z0 := blk_lt G10.out
          have f0 := frozAt G10.out
          simp at y0 y1 y2 y3
          go_wp2_with fail
          go_roundw
          case rel =>
            refine ⟨k + 1, by rw [HLN.out]; omega, by go_num, by rw [HR2.out], ⟨_, _, _, heap_below (Itm.set4 G10.out (.slice Q1 (k + 1) f1) (.slice Q2 0 f2) (.int .i64 0) (.slice Q3 0 f3)) (bel_alloc (Below.refl _ _) _), (snk_set4 S10.out G10.out (.slice Q1 (k + 1) f1) (.slice Q2 0 f2) (.int .i64 0) (.slice Q3 0 f3)).below (bel_alloc (Below.refl _ _) _)⟩, ?_⟩
            exact bel_alloc (Itm.bel4 (bThen HBEL.out B10.out) (Nat.le_refl _) _ _ _ _) _
          case measure => simp [intOf]; omega
        · obtain rfl : k = nq := by omega
          have hLL : L.take k = L := List.take_of_length_le (by rw [HLN.out]; exact Nat.le_refl _)
          rw [hLL] at HSNK
          have htok := tok_le HOK.out
          have htl : (L.map tOf).length = k := by rw [List.length_map]; exact HLN.out
          have hSle := rowB_le htok (by rw [htl]; exact HNQ.out)
          obtain ⟨S, hS⟩ : ∃ S, Sel.rowB (L.map tOf) = S := ⟨_, rfl⟩
          rw [hS] at hSle
          have HALL := Lib.hid (show ∀ w, Calls Tryz.prog 10 #[.string S] w fun e w' => ∃ v, e = .returned (.tuple #[v, .int .i64 S.size, .int .i64 0]) ∧ w'.ownsRow w.heap.size 9 1 v k (Sel.strCs (L.map tOf)) ∧ Below w.heap.size w w' from by
            intro w
            have h := Sel.all_any S w (by omega)
            unfold Sel.AllPost at h
            rw [← hS, all_rowB htok, htl] at h
            rw [← hS]
            exact h)
          have HSL := Lib.hid hSle
          have HTL := Lib.hid htl
          rw [hLL, hS]
          clear hLL htok htl hSle hS hlk
          go_wp2_with fail
          refine (HALL.out _).mono ?_
          rintro e w11 ⟨v11, rfl, hown, hb11⟩
          have HOW := Lib.hid hown
          have HB11 := Lib.hid hb11
          obtain ⟨A4, c4, rfl⟩ := own_slice hown
          have hszS : S.size ≤ 9223372036854775807 := by have := HSL.out; omega
          have hk2 := HNQ.out
          clear hown hb11
          go_wp2_with fail
          obtain ⟨wk, hwk⟩ : ∃ X, X = wr := ⟨_, rfl⟩
          subst hwk
          go_loopw [103] (fun i wq => ∃ j : Nat, j ≤ k ∧ i = .int .i64 j ∧ Below w11.heap.size w11 wq) (fun i _ => k - (intOf i).toNat)
          case atStart => exact ⟨0, Nat.zero_le _, rfl, Below.refl _ _⟩
          case round =>
            obtain ⟨j, hj, rfl, hb12⟩ := hrel
            have HB12 := Lib.hid hb12
            clear hb12
            by_cases hlt2 : j < k
            · obtain ⟨x, hi⟩ : ∃ x, L[j]? = some x := ⟨_, List.getElem?_eq_getElem (by rw [HLN.out]; exact hlt2)⟩
              have hxm : x ∈ L := List.mem_of_getElem? hi
              have hrow := (HROW.out.below HBEL.out).below (bThen HB11.out HB12.out)
              obtain ⟨b, o, c', hv', -, hb, hX⟩ := hrow.at_ hi
              rw [HLN.out] at hv'
              injection hv' with e1 e2 e3
              subst e1 e3
              have c0 := hX 0 _ rfl
              have c1 := hX 1 _ rfl
              have c2 := hX 2 _ rfl
              have c3 := hX 3 _ rfl
              have c4 := hX 4 _ rfl
              simp only [Nat.add_zero] at c0 c1 c2 c3 c4
              have hown := Sel.ownsRow_below HOW.out HB12.out
              obtain ⟨g4, rfl⟩ : ∃ g, A4 = some ⟨g, 0, none⟩ := by
                rcases hown.2 with ⟨hv, h0⟩ | ⟨g, cap, cur, hv, _⟩
                · omega
                · simp only [Value.slice.injEq] at hv; exact ⟨g, hv.1⟩
              have hcell := Sel.own_cell hown HTL.out.symm j (by rw [HTL.out]; exact hlt2)
              have hbk : (L.map tOf)[j]'(by rw [HTL.out]; exact hlt2) = tOf x := by
                rw [List.getElem_map]
                rw [List.getElem?_eq_getElem (by rw [HLN.out]; exact hlt2)] at hi
                injection hi with hi
                rw [hi]
              rw [hbk] at hcell
              have hsz := tOf_size (HOK.out x hxm)
              have hget := fun W => Itm.getI_any (tOf x) W (by omega) (itOf x) 0 (get_tOf (HOK.out x hxm))
              obtain ⟨t, ht⟩ : ∃ t, tOf x = t := ⟨_, rfl⟩
              rw [ht] at hcell hget
              obtain ⟨lo, hi5, ks, rn, rv⟩ := x
              have HGET := Lib.hid (show ∀ W, Calls Tryz.prog 11 #[.string t] W fun e w' => e = .returned (.tuple #[.agg #[.int .i64 5, .string ⟨#[]⟩, .int .i64 0, .int .i64 0, .int .i64 0, .int .i64 0, .int .i64 lo, .int .i64 hi5, .string ks, .int .i64 rn, .int .i64 rv], .int .i64 0]) ∧ Below W.heap.size W w' from hget)
              have EQ := fun W => Itm.eqRes W lo hi5 ks rn rv
              have HC := Lib.hid (show ∀ W2, Below wr.heap.size wr W2 → W2.cell? ⟨b, o + j * 5, none⟩ = some (.int .i64 lo) ∧ W2.cell? ⟨b, o + j * 5 + 1, none⟩ = some (.int .i64 hi5) ∧ W2.cell? ⟨b, o + j * 5 + 2, none⟩ = some (.string ks) ∧ W2.cell? ⟨b, o + j * 5 + 3, none⟩ = some (.int .i64 rn) ∧ W2.cell? ⟨b, o + j * 5 + 4, none⟩ = some (.int .i64 rv) from fun W2 h2 => ⟨(h2.cell hb).trans c0, (h2.cell hb).trans c1, (h2.cell hb).trans c2, (h2.cell hb).trans c3, (h2.cell hb).trans c4⟩)
              clear hX hrow hi hxm hown hbk hsz hget ht c0 c1 c2 c3 c4
              go_wp2_with fail
              refine (HGET.out _).mono ?_
              rintro e w13 ⟨rfl, hb13⟩
              have HB13 := Lib.hid hb13
              obtain ⟨W14, hW14⟩ : ∃ X, X = w13.alloc (.cells #[.int .i64 5, .string ⟨#[]⟩, .int .i64 0, .int .i64 0, .int .i64 0, .int .i64 0, .int .i64 lo, .int .i64 hi5, .string ks, .int .i64 rn, .int .i64 rv] 43) := ⟨_, rfl⟩
              have N14 := Lib.hid (show W14.heap[w13.heap.size]? = some (.cells #[.int .i64 5, .string ⟨#[]⟩, .int .i64 0, .int .i64 0, .int .i64 0, .int .i64 0, .int .i64 lo, .int .i64 hi5, .string ks, .int .i64 rn, .int .i64 rv] 43 (0, 0)) by rw [hW14]; exact heap_at _ _ _ rfl)
              have B14 := Lib.hid (show Below wr.heap.size wr W14 by rw [hW14]; exact bel_alloc HB13.out _)
              clear hb13 hcell
              go_wp2_with fail
              rw [← hW14]
              clear hW14
              obtain ⟨c0, c1, c2, c3, c4⟩ := HC.out W14 B14.out
              have x0 := cellsAt N14.out 0
              have x6 := cellsAt N14.out 6
              have x7 := cellsAt N14.out 7
              have x8 := cellsAt N14.out 8
              have x9 := cellsAt N14.out 9
              have x10 := cellsAt N14.out 10
              have z0 := blk_lt N14.out
              simp at x0 x6 x7 x8 x9 x10
              go_quiet (fail)
              go_wp2_with fail
              go_roundw
              case rel => exact ⟨j + 1, by omega, by go_num, bDrewN (bThen HB12.out B14.out)⟩
              case measure => simp [intOf]; omega
            · obtain rfl : j = k := by omega
              obtain ⟨vo', vs', vu', e', hro, -⟩ := HSNK.out
              injection e' with e'
              injection e' with e'
              simp at e'
              obtain ⟨rfl, -, -⟩ := e'
              have G12 := heap_below (heap_below HBOX.out HB11.out) HB12.out
              have y0 := cellsAt G12 0
              have z0 := blk_lt G12
              simp at y0
              have HR1 := Lib.hid ((hro.below HB11.out).below HB12.out)
              have HR2 := Lib.hid (show Itm.RowR wr (.slice A2 j c2) L from ⟨(HROW.out.below HBEL.out).below (bThen HB11.out HB12.out), fun x hx => (HOK.out x hx).wf, by rw [HLN.out]; unfold maxLen; omega⟩)
              clear hro G12
              go_wp2_with fail
              refine (Itm.likeR_any L _ _ _ HR1.out HR2.out).mono ?_
              rintro e w15 ⟨rfl, m15, rfl⟩
              go_wp2_with fail
              go_ret
              exact ⟨rfl, bDrewN (bThen (bThen (bThen HB5.out HBEL.out) HB11.out) HB12.out)⟩
    · have hd : (er == 0) = false := beq_eq_false_iff_ne.2 her
      go_wp2_with (go_at_call 6; refine (alive_any _).mono ?_; rintro e w5 ⟨rfl, hb5⟩)
      go_ret
      exact ⟨rfl, bThen HB1.out hb5⟩
end Go.Proofs.YtlboehpgpbchhaaGreat
