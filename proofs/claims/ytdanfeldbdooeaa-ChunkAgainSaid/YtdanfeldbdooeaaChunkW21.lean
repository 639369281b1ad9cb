/-
  WALKS of layer 20: the law ChunkAgain.
-/
import Derived.Test.YtdanfeldbdooeaaChunkP4
import Derived.Test.YtdanfeldbdooeaaChunkP5
import Derived.Test.YtdanfeldbdooeaaChunkArgs
import Derived.Test.YtdanfeldbdooeaaMapB
import Derived.Deep.DeepCutAuto
set_option linter.unusedVariables false
set_option linter.unusedSimpArgs false
namespace Go.Proofs.Ytdanfeldbdooeaa
open Go.RowKit

theorem wf64_in {a : Int} (h0 : -9223372036854775808 ≤ a) (h1 : a ≤ 9223372036854775807) : (Lit.int .i64 a).wf = true := WalkArith.wf_i64 ⟨h0, h1⟩
def AnRel (w : World) (b s : Nat) (bx : Obj) (l : List Ck) (i : Value) (wr : World) : Prop :=
  ∃ k : Nat, k ≤ l.length ∧ i = .int .i64 k ∧ MapB wr b ((l.take k).map Ck.no) ∧ wr.heap[s]? = some bx ∧ Below w.heap.size w wr
theorem an_next {l : List Ck} {k : Nat} {x : Ck} (h : l[k]? = some x) : (l.take k).map Ck.no ++ [x.no] = (l.take (k + 1)).map Ck.no := by
  rw [List.take_add_one, h, List.map_append]
  rfl
def AnRel2 (W : World) (n : Nat) (i : Value) (wr : World) : Prop := ∃ k : Nat, k ≤ n ∧ i = .int .i64 k ∧ wr = W
set_option maxRecDepth 100000 in
set_option maxHeartbeats 4000000 in
theorem again_walk (g o : Int) (l : List Ck) (v : Value) (w : World) (hg : GatherAt w v g o l) :
    Calls Try.prog 9 #[v] w fun e w' => e = .returned (.bool true) ∧ Below w.heap.size w w' := by
  obtain ⟨v, rfl, hv, hok, -, -, hml⟩ := hg
  have hmm := @run_makeMap Try.prog
  have R1 := Lib.hid hv
  have hm63 : l.length ≤ 9223372036854775807 := by unfold maxLen at hml; omega
  clear hml
  by_cases h600 : 600 < l.length
  · obtain ⟨A, cp, rfl, -⟩ := hv
    obtain ⟨m, hm⟩ : ∃ m, l.length = m := ⟨_, rfl⟩
    rw [hm] at h600 hm63 ⊢
    clear hm R1
    have h6 : decide ((600 : Int) < (m : Int)) = true := by simp; omega
    go_enter Try.func9, Try.ntmps9
    go_wp2_with fail
    refine (calive_any _).mono ?_
    rintro e w3 ⟨rfl, hb3⟩
    go_wp2_with fail
    go_ret
    exact ⟨rfl, belA (Below.refl _ _) hb3⟩
  have hl : l.length ≤ 600 := by omega
  clear h600 hm63
  obtain ⟨q, hq⟩ : ∃ q, rightG g o l = q := ⟨_, rfl⟩
  have HQ := Lib.hid hq
  have HR := Lib.hid (fun W (h : Row Ck.cs 4 W v l) => cright_any g o l v W h (by omega) hok q hq)
  have HT := Lib.hid (fun W (x : Ck) (hx : x.Ok) (he : takeC g o l x = ⟨g, o, l, 0⟩) (h : Row Ck.cs 4 W v l) => (show Calls Try.prog 29 #[.agg #[.int .i64 g, .int .i64 o, v], .agg #[.int .i64 x.g, .int .i64 x.no, .int .i64 x.of_, .string x.b]] W (TkTo ⟨g, o, l, 0⟩ W) by have := ctake_any g o l x hx v W h (by omega) hok; rw [he] at this; exact this))
  have HM := Lib.hid (fun W (hr : rightG g o l = true) (h : Row Ck.cs 4 W v l) => (show Calls Try.prog 31 #[.agg #[.int .i64 g, .int .i64 o, v]] W (MsTo (missK l o.toNat) W) by have := missing_any g o l v W h (by omega) hok; rw [if_pos hr] at this; exact this))
  have HLK := Lib.hid (fun W (v u : Value) (h : Row Ck.cs 4 W v l) (h' : Row Ck.cs 4 W u l) => likeG_same g o l v u W h h' (by omega))
  obtain ⟨A, cp, rfl, -⟩ := hv
  have HOK := Lib.hid hok
  obtain ⟨m, hm⟩ : ∃ m, l.length = m := ⟨_, rfl⟩
  rw [hm] at R1 HR HT HM hl ⊢
  have Hm := Lib.hid hm
  clear hm hq hok
  have h6 : decide ((600 : Int) < (m : Int)) = false := by simp; omega
  go_enter Try.func9, Try.ntmps9
  go_wp2_with fail
  obtain ⟨W1, hW2⟩ : ∃ X, X = (w).alloc (.cells #[.int .i64 g, .int .i64 o, .slice A m cp] 52) := ⟨_, rfl⟩
  rw [← hW2]
  have hb3 : Below w.heap.size w W1 := by rw [hW2]; exact bel_alloc (Below.refl _ _) _
  have Ns := Lib.hid (show W1.heap[w.heap.size]? = some (.cells #[.int .i64 g, .int .i64 o, .slice A m cp] 52 (0, 0)) by rw [hW2]; exact heap_at (w) _ (w.heap.size) (by simp))
  clear hW2
  have BB4 := Lib.hid hb3
  clear hb3
  have Bls := Ns
  clear Ns
  have R2 := Lib.hid (R1.out.below BB4.out)
  refine (HR.out _ R2.out).mono ?_
  rintro e w5 ⟨rfl, hb6⟩
  have Z := Lib.hid (heap_below Bls.out hb6)
  clear Bls
  have Bls := Z
  clear Z
  have Z := Lib.hid (Row.below R2.out hb6)
  clear R2
  have R2 := Z
  clear Z
  have BB7 := Lib.hid (bThen BB4.out hb6)
  clear hb6
  have zs := blk_lt Bls.out
  have xs0 := cellsAt Bls.out 0
  have xs1 := cellsAt Bls.out 1
  have xs2 := cellsAt Bls.out 2
  have fs := frozAt Bls.out
  simp at xs0 xs1 xs2
  cases q with
  | false =>
    go_wp2_with fail
    refine (calive_any _).mono ?_
    rintro e w8 ⟨rfl, hb9⟩
    clear zs fs xs0 xs1 xs2
    have Z := Lib.hid (heap_below Bls.out hb9)
    clear Bls
    have Bls := Z
    clear Z
    have Z := Lib.hid (Row.below R2.out hb9)
    clear R2
    have R2 := Z
    clear Z
    have BB10 := Lib.hid (bThen BB7.out hb9)
    clear hb9
    go_wp2_with fail
    go_ret
    exact ⟨rfl, BB10.out⟩
  | true =>
    go_wp2_with fail
    refine (calive_any _).mono ?_
    rintro e w8 ⟨rfl, hb9⟩
    clear zs fs xs0 xs1 xs2
    have Z := Lib.hid (heap_below Bls.out hb9)
    clear Bls
    have Bls := Z
    clear Z
    have Z := Lib.hid (Row.below R2.out hb9)
    clear R2
    have R2 := Z
    clear Z
    have BB10 := Lib.hid (bThen BB7.out hb9)
    clear hb9
    have zs := blk_lt Bls.out
    have xs0 := cellsAt Bls.out 0
    have xs1 := cellsAt Bls.out 1
    have xs2 := cellsAt Bls.out 2
    have fs := frozAt Bls.out
    simp at xs0 xs1 xs2
    go_wp2_with fail
    obtain ⟨W2, hW2⟩ : ∃ X, X = w8.alloc (.map #[] 0) := ⟨_, rfl⟩
    rw [← hW2]
    have MB := Lib.hid (show MapB W2 w8.heap.size [] by rw [hW2]; exact MapB.made _)
    have hbm : Below w8.heap.size w8 W2 := by rw [hW2]; exact bel_alloc (Below.refl _ _) _
    obtain ⟨b, hb⟩ : ∃ b, w8.heap.size = b := ⟨_, rfl⟩
    have hb0 : w.heap.size ≤ b := by rw [← hb]; exact BB10.out.size
    rw [hb] at MB ⊢
    clear hW2 hb
    clear zs fs xs0 xs1 xs2
    have Z := Lib.hid (heap_below Bls.out hbm)
    clear Bls
    have Bls := Z
    clear Z
    have Z := Lib.hid (Row.below R2.out hbm)
    clear R2
    have R2 := Z
    clear Z
    have BB11 := Lib.hid (bThen BB10.out hbm)
    clear hbm
    go_loopw [29] (fun i wr => AnRel w b w.heap.size (.cells #[.int .i64 g, .int .i64 o, .slice A m cp] 52 (0, 0)) l i wr) (fun i _ => m - (intOf i).toNat)
    case atStart => exact ⟨0, Nat.zero_le _, rfl, MB.out, Bls.out, BB11.out⟩
    case round =>
      clear MB Bls R2 BB11
      obtain ⟨k, hk, rfl, hmb, hbx, hbel⟩ := hrel
      rw [Hm.out] at hk
      have MB := Lib.hid hmb
      have Bls := Lib.hid hbx
      have BR := Lib.hid hbel
      have R2 := Lib.hid (R1.out.below hbel)
      clear hmb hbx hbel
      by_cases hlt : k < m
      · obtain ⟨x, hi⟩ : ∃ x, l[k]? = some x := ⟨_, List.getElem?_eq_getElem (by rw [Hm.out]; exact hlt)⟩
        have HX := Lib.hid hi
        have hxo := HOK.out x (List.mem_of_getElem? hi)
        have HAG := Lib.hid (take_again HQ.out hi)
        obtain ⟨b1, o1, c3, e', hc', hb1, hX⟩ := R2.out.at_ hi
        injection e' with e1 e2 e3
        clear e2
        subst e1 e3
        have k0 := hX 0 _ rfl
        have k1 := hX 1 _ rfl
        have k2 := hX 2 _ rfl
        have k3 := hX 3 _ rfl
        have HXO := Lib.hid hxo
        have hxw : (Lit.int .i64 x.no).wf = true := by have h1 := (right_mem HQ.out).2.2 x (List.mem_of_getElem? hi); have h2 := (right_mem HQ.out).1; exact wf64_in (by omega) (by omega)
        have HXW := Lib.hid hxw
        clear hX hi hxo hxw
        simp only [Nat.add_zero] at k0 k1 k2 k3
        have HTX := Lib.hid (fun W h => HT.out W x HXO.out HAG.out h)
        clear HT HXO HAG
        obtain ⟨xg, xn, xo, xb⟩ := x
        simp only at k0 k1 k2 k3 HTX HXW
        have zs := blk_lt Bls.out
        have xs0 := cellsAt Bls.out 0
        have xs1 := cellsAt Bls.out 1
        have xs2 := cellsAt Bls.out 2
        have fs := frozAt Bls.out
        simp at xs0 xs1 xs2
        go_upto_region 7 with fail
        clear k0 k1 k2 k3
        obtain ⟨W12, hW13⟩ : ∃ X, X = (wr).alloc (.cells #[.int .i64 xg, .int .i64 xn, .int .i64 xo, .string xb] 56) := ⟨_, rfl⟩
        rw [← hW13]
        have hb14 : Below wr.heap.size wr W12 := by rw [hW13]; exact bel_alloc (Below.refl _ _) _
        have Nc := Lib.hid (show W12.heap[wr.heap.size]? = some (.cells #[.int .i64 xg, .int .i64 xn, .int .i64 xo, .string xb] 56 (0, 0)) by rw [hW13]; exact heap_at (wr) _ (wr.heap.size) (by simp))
        clear hW13
        have Z := Lib.hid (heap_below Bls.out hb14)
        clear Bls
        have Bls := Z
        clear Z
        have Z := Lib.hid (Row.below R2.out hb14)
        clear R2
        have R2 := Z
        clear Z
        have Z := Lib.hid (MapB.below MB.out hb14)
        clear MB
        have MB := Z
        clear Z
        have BB15 := Lib.hid (bThen BR.out hb14)
        clear hb14
        have Blc := Nc
        clear Nc
        clear zs fs xs0 xs1 xs2
        have zs := blk_lt Bls.out
        have xs0 := cellsAt Bls.out 0
        have xs1 := cellsAt Bls.out 1
        have xs2 := cellsAt Bls.out 2
        have fs := frozAt Bls.out
        simp at xs0 xs1 xs2
        have zc := blk_lt Blc.out
        have xc0 := cellsAt Blc.out 0
        have xc1 := cellsAt Blc.out 1
        have xc2 := cellsAt Blc.out 2
        have xc3 := cellsAt Blc.out 3
        have fc := frozAt Blc.out
        simp at xc0 xc1 xc2 xc3
        go_wp2_with fail
        refine (HTX.out _ R2.out).mono ?_
        rintro e w16 ⟨v1, rfl, hr1, hb17⟩
        have Q1 := Lib.hid hr1
        obtain ⟨A1, q1, rfl, -⟩ := hr1
        simp only [Hm.out] at Q1 ⊢
        clear zs fs xs0 xs1 xs2 zc fc xc0 xc1 xc2 xc3
        have Z := Lib.hid (heap_below Bls.out hb17)
        clear Bls
        have Bls := Z
        clear Z
        have Z := Lib.hid (heap_below Blc.out hb17)
        clear Blc
        have Blc := Z
        clear Z
        have Z := Lib.hid (Row.below R2.out hb17)
        clear R2
        have R2 := Z
        clear Z
        have Z := Lib.hid (MapB.below MB.out hb17)
        clear MB
        have MB := Z
        clear Z
        have BB18 := Lib.hid (bThen BB15.out hb17)
        clear hb17
        go_upto_region 8 with fail
        obtain ⟨W19, hW20⟩ : ∃ X, X = (w16).alloc (.cells #[.int .i64 g, .int .i64 o, .slice A1 m q1] 52) := ⟨_, rfl⟩
        rw [← hW20]
        have hb21 : Below w16.heap.size w16 W19 := by rw [hW20]; exact bel_alloc (Below.refl _ _) _
        have Nt := Lib.hid (show W19.heap[w16.heap.size]? = some (.cells #[.int .i64 g, .int .i64 o, .slice A1 m q1] 52 (0, 0)) by rw [hW20]; exact heap_at (w16) _ (w16.heap.size) (by simp))
        clear hW20
        have Z := Lib.hid (heap_below Bls.out hb21)
        clear Bls
        have Bls := Z
        clear Z
        have Z := Lib.hid (heap_below Blc.out hb21)
        clear Blc
        have Blc := Z
        clear Z
        have Z := Lib.hid (Row.below R2.out hb21)
        clear R2
        have R2 := Z
        clear Z
        have Z := Lib.hid (MapB.below MB.out hb21)
        clear MB
        have MB := Z
        clear Z
        have Z := Lib.hid (Row.below Q1.out hb21)
        clear Q1
        have Q1 := Z
        clear Z
        have BB22 := Lib.hid (bThen BB18.out hb21)
        clear hb21
        have Blt := Nt
        clear Nt
        have zs := blk_lt Bls.out
        have xs0 := cellsAt Bls.out 0
        have xs1 := cellsAt Bls.out 1
        have xs2 := cellsAt Bls.out 2
        have fs := frozAt Bls.out
        simp at xs0 xs1 xs2
        have zt := blk_lt Blt.out
        have xt0 := cellsAt Blt.out 0
        have xt1 := cellsAt Blt.out 1
        have xt2 := cellsAt Blt.out 2
        have ft := frozAt Blt.out
        simp at xt0 xt1 xt2
        go_wp2_with fail
        refine (HLK.out _ _ _ Q1.out R2.out).mono ?_
        rintro e w23 ⟨rfl, hb24⟩
        clear zs fs xs0 xs1 xs2 zt ft xt0 xt1 xt2
        have Z := Lib.hid (heap_below Bls.out hb24)
        clear Bls
        have Bls := Z
        clear Z
        have Z := Lib.hid (heap_below Blc.out hb24)
        clear Blc
        have Blc := Z
        clear Z
        have Z := Lib.hid (heap_below Blt.out hb24)
        clear Blt
        have Blt := Z
        clear Z
        have Z := Lib.hid (Row.below R2.out hb24)
        clear R2
        have R2 := Z
        clear Z
        have Z := Lib.hid (MapB.below MB.out hb24)
        clear MB
        have MB := Z
        clear Z
        have Z := Lib.hid (Row.below Q1.out hb24)
        clear Q1
        have Q1 := Z
        clear Z
        have BB25 := Lib.hid (bThen BB22.out hb24)
        clear hb24
        have zc := blk_lt Blc.out
        have xc0 := cellsAt Blc.out 0
        have xc1 := cellsAt Blc.out 1
        have xc2 := cellsAt Blc.out 2
        have xc3 := cellsAt Blc.out 3
        have fc := frozAt Blc.out
        simp at xc0 xc1 xc2 xc3
        go_wp2_with (at_mapUpdate; refine wpList_mapB rfl _ _ _ rfl _ _ rfl MB.out (by rw [List.length_map, List.length_take]; unfold maxLen; omega) _ rfl rfl HXW.out ?_; intro w9 hm9 hg9)
        clear zc fc xc0 xc1 xc2 xc3
        have M9 := Lib.hid hm9
        have S9 := Lib.hid (heap_keepM Bls.out MB.out (by intro es c h; cases h) hg9)
        have B9 := Lib.hid (BB25.out.grown hg9 (BB25.out.size) (fun q hq => by injection hq with hq; omega))
        clear hm9 hg9
        go_wp2_with fail
        go_roundw
        case rel => exact ⟨k + 1, by rw [Hm.out]; omega, by go_num, by have h := M9.out; rw [an_next HX.out] at h; exact h, S9.out, B9.out⟩
        case measure => simp [intOf]; omega
      · obtain rfl : k = m := by omega
        clear HT HOK
        have zs := blk_lt Bls.out
        have xs0 := cellsAt Bls.out 0
        have xs1 := cellsAt Bls.out 1
        have xs2 := cellsAt Bls.out 2
        have fs := frozAt Bls.out
        simp at xs0 xs1 xs2
        go_wp2_with fail
        refine (HM.out _ HQ.out R2.out).mono ?_
        rintro e w12 ⟨v5, rfl, hr5, hb13⟩
        have Q5 := Lib.hid hr5
        obtain ⟨A5, q5, rfl, -⟩ := hr5
        clear zs fs xs0 xs1 xs2
        have Z := Lib.hid (heap_below Bls.out hb13)
        clear Bls
        have Bls := Z
        clear Z
        have Z := Lib.hid (Row.below R2.out hb13)
        clear R2
        have R2 := Z
        clear Z
        have Z := Lib.hid (MapB.below MB.out hb13)
        clear MB
        have MB := Z
        clear Z
        have BB14 := Lib.hid (bThen BR.out hb13)
        clear hb13
        obtain ⟨LL, hLL⟩ : ∃ L, missK l o.toNat = L := ⟨_, rfl⟩
        rw [hLL] at Q5 ⊢
        have HLL := Lib.hid hLL
        obtain ⟨p, hp⟩ : ∃ p, LL.length = p := ⟨_, rfl⟩
        rw [hp] at Q5 ⊢
        have HP := Lib.hid hp
        have hoo := (right_mem HQ.out).1
        have hpm : p + k = o.toNat := by have h := miss_count HQ.out; rw [hLL, hp, Hm.out] at h; exact h
        clear hLL hp
        have hfin : ((p : Int) + (k : Int) == o) = true := by simp; omega
        have HPM := Lib.hid hpm
        have hp5 : p ≤ 512 := by omega
        clear hpm
        have HOO := Lib.hid hoo
        clear hoo
        have zs := blk_lt Bls.out
        have xs0 := cellsAt Bls.out 0
        have xs1 := cellsAt Bls.out 1
        have xs2 := cellsAt Bls.out 2
        have fs := frozAt Bls.out
        simp at xs0 xs1 xs2
        go_wp2_with fail
        clear zs fs xs0 xs1 xs2
        go_loopw [55] (fun i wr => AnRel2 w12 p i wr) (fun i _ => p - (intOf i).toNat)
        case atStart => exact ⟨0, Nat.zero_le _, rfl, rfl⟩
        case round =>
          obtain ⟨j, hj, rfl, rfl⟩ := hrel
          by_cases hjlt : j < p
          · obtain ⟨no, hi⟩ : ∃ x, LL[j]? = some x := ⟨_, List.getElem?_eq_getElem (by rw [HP.out]; exact hjlt)⟩
            have HI := Lib.hid hi
            obtain ⟨b2, o2, c4, e', -, hb2, hX⟩ := Q5.out.at_ hi
            injection e' with e1 e2 e3
            clear e2
            subst e1 e3
            have k0 := hX 0 _ rfl
            simp only [Nat.add_zero, Nat.mul_one] at k0
            clear hX
            obtain ⟨hn0, hn1, hn2⟩ := miss_mem (l := l) (n := o.toNat) (no := no) (by rw [HLL.out]; exact List.mem_of_getElem? hi)
            have hoo := HOO.out
            have hno : no < o := by omega
            have hlk := MB.out.look (a := no) (wf64_in (by omega) (by omega))
            rw [miss_came hn2] at hlk
            have d1 : decide (no < 0) = false := by simp; omega
            have d2 : decide (o ≤ no) = false := by simp; omega
            clear hn2 hn1 hi hoo
            have zs := blk_lt Bls.out
            have xs0 := cellsAt Bls.out 0
            have xs1 := cellsAt Bls.out 1
            have xs2 := cellsAt Bls.out 2
            have fs := frozAt Bls.out
            simp at xs0 xs1 xs2
            by_cases hj0 : j = 0
            · subst hj0
              have k0z := k0
              simp only [Nat.add_zero, Nat.zero_mul] at k0z
              have d3 : decide (0 < ((0 : Nat) : Int)) = false := by simp
              go_wp2_with fail
              go_roundw
              case rel => exact ⟨0 + 1, by omega, by go_num, rfl⟩
              case measure => simp [intOf]; omega
            · have d3 : decide (0 < (j : Int)) = true := by simp; omega
              have d3n : decide (0 < j) = true := by simp; omega
              have hj1 : (1 : Int) ≤ (j : Int) := by omega
              have hj1n : 0 < j := by omega
              obtain ⟨pr, hpr⟩ : ∃ x, LL[j - 1]? = some x := ⟨_, List.getElem?_eq_getElem (by rw [HP.out]; omega)⟩
              have hlt2 : pr < no := miss_step (l := l) (n := o.toNat) (k := j - 1) (by rw [HLL.out]; exact hpr) (by rw [HLL.out, show j - 1 + 1 = j by omega]; exact HI.out)
              have d4 : decide (no ≤ pr) = false := by simp; omega
              obtain ⟨b3, o3, c5, e', -, -, hX⟩ := Q5.out.at_ hpr
              injection e' with e1 e2 e3
              clear e2
              injection e1 with e1
              injection e1 with e1 e1b
              subst e1 e1b e3
              have kp := hX 0 _ rfl
              simp only [Nat.add_zero, Nat.mul_one] at kp
              clear hX hpr hlt2
              have hkm : ((j : Int) - 1).toNat = j - 1 := by omega
              have hkm2 : (0 : Int) ≤ (j : Int) - 1 := by omega
              have hkm3 : (j : Int) - 1 < (p : Int) := by omega
              have hw1 : IntKind.i64.wrap ((j : Int) - 1) = (j : Int) - 1 := by rw [IntKind.wrap_i64]; omega
              go_wp2_with fail
              go_roundw
              case rel => exact ⟨j + 1, by omega, by go_num, rfl⟩
              case measure => simp [intOf]; omega
          · obtain rfl : j = p := by omega
            have zs := blk_lt Bls.out
            have xs0 := cellsAt Bls.out 0
            have xs1 := cellsAt Bls.out 1
            have xs2 := cellsAt Bls.out 2
            have fs := frozAt Bls.out
            simp at xs0 xs1 xs2
            go_wp2_with fail
            go_ret
            exact ⟨rfl, BB14.out⟩
end Go.Proofs.Ytdanfeldbdooeaa
