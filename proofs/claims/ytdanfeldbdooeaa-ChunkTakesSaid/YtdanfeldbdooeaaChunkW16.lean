/-
  WALKS of layer 20: the reference's Take.
-/
import Derived.Test.YtdanfeldbdooeaaChunkP3
import Derived.Test.YtdanfeldbdooeaaChunkW15
set_option linter.unusedVariables false
set_option linter.unusedSimpArgs false
namespace Go.Proofs.Ytdanfeldbdooeaa
open Go.RowKit

/-- What is laid out: a box and a row of its own. -/
def OutAt (bo : Nat) (g co : Int) (L : List Ck) (n : Nat) (A : Option Addr) (cp : Nat) (W : World) : Prop :=
  n = L.length ∧ W.heap[bo]? = some (.cells #[.int .i64 g, .int .i64 co, .slice A n cp] 52 (0, 0)) ∧ W.ownsRow (bo + 1) 56 4 (.slice A n cp) n (L.flatMap Ck.cs)
theorem OutAt.below {bo : Nat} {g co : Int} {L : List Ck} {n : Nat} {A : Option Addr} {cp : Nat} {W W' : World} (h : OutAt bo g co L n A cp W) (hb : Below W.heap.size W W') : OutAt bo g co L n A cp W' :=
  ⟨h.1, heap_below h.2.1 hb, own_below h.2.2 hb⟩
theorem OutAt.push {bo : Nat} {g co : Int} {L : List Ck} {n : Nat} {A A5 : Option Addr} {cp c5 : Nat} {W W5 : World} {x : Ck} (h : OutAt bo g co L n A cp W) (hb : Below (bo + 1) W W5)
    (h5 : W5.ownsRow (bo + 1) 56 4 (.slice A5 (n + 1) c5) (n + 1) (L.flatMap Ck.cs ++ x.cs)) : OutAt bo g co (L ++ [x]) (n + 1) A5 c5 (W5.setCell ⟨bo, 2, none⟩ (.slice A5 (n + 1) c5)) := by
  refine ⟨by rw [h.1, List.length_append]; rfl, ?_, ?_⟩
  · have := blk_set ((hb.block bo (Nat.lt_succ_self _)).trans h.2.1) 2 (.slice A5 (n + 1) c5)
    simpa using this
  · rw [List.flatMap_append, List.flatMap_cons, List.flatMap_nil, List.append_nil]
    exact own_set h5 (Nat.lt_succ_self _) _
def BelN (n : Nat) (a b : World) : Prop := n ≤ a.heap.size ∧ Below n a b
theorem BelN.thn {n : Nat} {a b c : World} (h : BelN n a b) (k : Below b.heap.size b c) : BelN n a c := ⟨h.1, h.2.trans (k.mono (Nat.le_trans h.1 h.2.size))⟩
theorem BelN.push {n : Nat} {a b c : World} (h : BelN n a b) (k : Below (n + 1) b c) (v : Value) : BelN n a (c.setCell ⟨n, 2, none⟩ v) := ⟨h.1, (h.2.trans (k.mono (Nat.le_succ _))).setCell (Nat.le_refl _) v⟩
theorem push_other {n g : Nat} {b c : World} {o : Obj} (h : b.heap[g]? = some o) (hg : g < n) (k : Below (n + 1) b c) (v : Value) : (c.setCell ⟨n, 2, none⟩ v).heap[g]? = some o :=
  (Below.heap_setCell _ _ _ _ (by show g ≠ n; omega)).trans ((k.block g (by omega)).trans h)
def TrRel (bo : Nat) (g co : Int) (l : List Ck) (c : Ck) (W1 : World) (i : Value) (wr : World) : Prop :=
  ∃ (k n : Nat) (A : Option Addr) (cp : Nat), (k : Int) ≤ c.of_ ∧ i = .int .i64 k ∧ OutAt bo g co (outK l c k) n A cp wr ∧ BelN bo W1 wr
def AtX (l : List Ck) (no : Int) (x : Ck) : Bool → Prop
  | true => getC l no = some x
  | false => getC l no = none
theorem atG_x {l : List Ck} {no : Int} {a b d : Int} {s : ByteArray} {f : Bool} (h : atG l no = (⟨a, b, d, s⟩, f)) : AtX l no ⟨a, b, d, s⟩ f := by
  cases f with
  | true => exact atG_some h
  | false => exact atG_none h
set_option maxRecDepth 100000 in
set_option maxHeartbeats 4000000 in
theorem rtake_any (g o : Int) (l : List Ck) (c : Ck) (hc : c.Ok) (v : Value) (w : World) (hv : Row Ck.cs 4 w v l) (hl : l.length ≤ 900000) (hok : ∀ x ∈ l, x.Ok) :
    Calls Try.prog 36 #[.agg #[.int .i64 g, .int .i64 o, v], .agg #[.int .i64 c.g, .int .i64 c.no, .int .i64 c.of_, .string c.b]] w (TkTo (takeC g o l c) w) := by
  have R1 := Lib.hid hv
  obtain ⟨q, hq⟩ : ∃ q, rightG g o l = q := ⟨_, rfl⟩
  have HQ := Lib.hid hq
  have HR := Lib.hid (fun W (h : Row Ck.cs 4 W v l) => rright_any g o l v W h (by omega) hok q hq)
  obtain ⟨bm, hbm⟩ : ∃ q, mayB c = q := ⟨_, rfl⟩
  have HBM := Lib.hid hbm
  have HP := Lib.hid (fun W => rmay_any c W bm hbm hc.1 hc.2)
  have HAT := Lib.hid (fun W (t : Int) r (hr : atG l t = r) (h : Row Ck.cs 4 W v l) => at_is g o t l v W r hr h hl)
  obtain ⟨A, cp, rfl, -⟩ := hv
  obtain ⟨R, hR⟩ : ∃ R, takeC g o l c = R := ⟨_, rfl⟩
  have HO := Lib.hid hR
  rw [hR]
  obtain ⟨m, hm⟩ : ∃ m, l.length = m := ⟨_, rfl⟩
  rw [hm] at R1 HR HAT hl ⊢
  clear hq hbm hR hm hok hc
  obtain ⟨i0, hi, hz0, hz1, hz2⟩ := info_parts info_ck
  have HI := Lib.hid hi
  have HZ0 := Lib.hid hz0
  have HZ1 := Lib.hid hz1
  have HZ2 := Lib.hid hz2
  clear hi hz0 hz1 hz2
  obtain ⟨cg, cn, co, cb⟩ := c
  simp only at HP ⊢
  go_enter Try.func36, Try.ntmps36
  unfold TkTo
  go_wp2_with fail
  obtain ⟨W1, hW2⟩ : ∃ X, X = (((w).alloc (.cells #[.int .i64 g, .int .i64 o, .slice A m cp] 52)).alloc (.cells #[.int .i64 cg, .int .i64 cn, .int .i64 co, .string cb] 56)).alloc (.cells #[.int .i64 0, .int .i64 0, .slice none 0 0] 52) := ⟨_, rfl⟩
  rw [← hW2]
  have hb3 : Below w.heap.size w W1 := by rw [hW2]; exact bel_alloc (bel_alloc (bel_alloc (Below.refl _ _) _) _) _
  have Ns := Lib.hid (show W1.heap[w.heap.size]? = some (.cells #[.int .i64 g, .int .i64 o, .slice A m cp] 52 (0, 0)) by rw [hW2]; exact heap_below (heap_at (w) _ (w.heap.size) (by simp)) (bel_alloc (bel_alloc (Below.refl _ _) _) _))
  have Nc := Lib.hid (show W1.heap[w.heap.size + 1]? = some (.cells #[.int .i64 cg, .int .i64 cn, .int .i64 co, .string cb] 56 (0, 0)) by rw [hW2]; exact heap_below (heap_at ((w).alloc (.cells #[.int .i64 g, .int .i64 o, .slice A m cp] 52)) _ (w.heap.size + 1) (by simp)) (bel_alloc (Below.refl _ _) _))
  have Nz := Lib.hid (show W1.heap[w.heap.size + 1 + 1]? = some (.cells #[.int .i64 0, .int .i64 0, .slice none 0 0] 52 (0, 0)) by rw [hW2]; exact heap_at (((w).alloc (.cells #[.int .i64 g, .int .i64 o, .slice A m cp] 52)).alloc (.cells #[.int .i64 cg, .int .i64 cn, .int .i64 co, .string cb] 56)) _ (w.heap.size + 1 + 1) (by simp))
  clear hW2
  have BB4 := Lib.hid hb3
  clear hb3
  have Bls := Ns
  clear Ns
  have Blc := Nc
  clear Nc
  have Blz := Nz
  clear Nz
  have R2 := Lib.hid (R1.out.below BB4.out)
  refine (HR.out _ R2.out).mono ?_
  rintro e w5 ⟨rfl, hb6⟩
  have Z := Lib.hid (heap_below Bls.out hb6)
  clear Bls
  have Bls := Z
  clear Z
  have Z := Lib.hid (heap_below Blc.out hb6)
  clear Blc
  have Blc := Z
  clear Z
  have Z := Lib.hid (heap_below Blz.out hb6)
  clear Blz
  have Blz := Z
  clear Z
  have Z := Lib.hid (Row.below R2.out hb6)
  clear R2
  have R2 := Z
  clear Z
  have BB7 := Lib.hid (bThen BB4.out hb6)
  clear hb6
  have zs := blk_lt Bls.out
  have xs0 := cellsAt Bls.out 0
  have xs1 := cellsAt Bls.out 1
  have xs2 := cellsAt Bls.out 2
  have fs := frozAt Bls.out
  simp at xs0 xs1 xs2
  have zc := blk_lt Blc.out
  have xc0 := cellsAt Blc.out 0
  have xc1 := cellsAt Blc.out 1
  have xc2 := cellsAt Blc.out 2
  have xc3 := cellsAt Blc.out 3
  have fc := frozAt Blc.out
  simp at xc0 xc1 xc2 xc3
  have zz := blk_lt Blz.out
  have xz0 := cellsAt Blz.out 0
  have xz1 := cellsAt Blz.out 1
  have xz2 := cellsAt Blz.out 2
  have fz := frozAt Blz.out
  simp at xz0 xz1 xz2
  cases q with
  | false =>
    have HOF := HO.out
    unfold takeC at HOF
    rw [if_neg (by rw [HQ.out]; simp)] at HOF
    subst HOF
    go_wp2_with fail
    exact bodyPost_ret (v := .tuple #[.agg #[.int .i64 0, .int .i64 0, .slice none 0 0], .int .i64 1]) (by simp [results, Try.results36, go_sem, xz0, xz1, xz2]) rfl ⟨_, rfl, Row.none_, belG3 BB7.out (by omega) _ _ _⟩
  | true =>
    go_wp2_with fail
    refine (HP.out _).mono ?_
    rintro e w8 ⟨rfl, hb9⟩
    clear zs fs xs0 xs1 xs2 zc fc xc0 xc1 xc2 xc3 zz fz xz0 xz1 xz2
    have Z := Lib.hid (heap_below Bls.out hb9)
    clear Bls
    have Bls := Z
    clear Z
    have Z := Lib.hid (heap_below Blc.out hb9)
    clear Blc
    have Blc := Z
    clear Z
    have Z := Lib.hid (heap_below Blz.out hb9)
    clear Blz
    have Blz := Z
    clear Z
    have Z := Lib.hid (Row.below R2.out hb9)
    clear R2
    have R2 := Z
    clear Z
    have BB10 := Lib.hid (bThen BB7.out hb9)
    clear hb9
    have zs := blk_lt Bls.out
    have xs0 := cellsAt Bls.out 0
    have xs1 := cellsAt Bls.out 1
    have xs2 := cellsAt Bls.out 2
    have fs := frozAt Bls.out
    simp at xs0 xs1 xs2
    have zc := blk_lt Blc.out
    have xc0 := cellsAt Blc.out 0
    have xc1 := cellsAt Blc.out 1
    have xc2 := cellsAt Blc.out 2
    have xc3 := cellsAt Blc.out 3
    have fc := frozAt Blc.out
    simp at xc0 xc1 xc2 xc3
    have zz := blk_lt Blz.out
    have xz0 := cellsAt Blz.out 0
    have xz1 := cellsAt Blz.out 1
    have xz2 := cellsAt Blz.out 2
    have fz := frozAt Blz.out
    simp at xz0 xz1 xz2
    cases bm with
    | false =>
      have HOF := HO.out
      unfold takeC at HOF
      rw [if_pos HQ.out, if_neg (by unfold fitB; rw [HBM.out]; simp)] at HOF
      subst HOF
      go_wp2_with fail
      exact bodyPost_ret (v := .tuple #[.agg #[.int .i64 0, .int .i64 0, .slice none 0 0], .int .i64 200]) (by simp [results, Try.results36, go_sem, xz0, xz1, xz2]) rfl ⟨_, rfl, Row.none_, belG3 BB10.out (by omega) _ _ _⟩
    | true =>
      by_cases hg1 : cg = g
      · have tg : (cg == g) = true := by simpa using hg1
        have tg2 : decide (cg = g) = true := by simpa using hg1
        have tg3 : (cg != g) = false := by simpa using hg1
        have ho00 : 0 ≤ o := by have h := HQ.out; unfold rightG at h; simp only [Bool.and_eq_true, decide_eq_true_eq] at h; exact h.1.2.1
        by_cases ho0 : o = 0
        · have t0 : decide (0 < o) = false := by simp; omega
          have t1 : (co != o) = true ∨ True := .inr trivial
          have HFT := Lib.hid (show fitB g o ⟨cg, cn, co, cb⟩ = true by unfold fitB; rw [HBM.out]; simp; exact ⟨hg1, .inl ho0⟩)
          clear hg1 ho0 ho00
          obtain ⟨⟨⟨xg, xn, xo, xb⟩, is⟩, hr⟩ : ∃ r, atG l cn = r := ⟨_, rfl⟩
          have HG := Lib.hid (atG_x hr)
          have HRR := Lib.hid hr
          clear hr
          go_wp2_with fail
          refine (HAT.out _ cn _ HRR.out R2.out).mono ?_
          rintro e w11 ⟨rfl, hb12⟩
          clear zs fs xs0 xs1 xs2 zc fc xc0 xc1 xc2 xc3 zz fz xz0 xz1 xz2
          have Z := Lib.hid (heap_below Bls.out hb12)
          clear Bls
          have Bls := Z
          clear Z
          have Z := Lib.hid (heap_below Blc.out hb12)
          clear Blc
          have Blc := Z
          clear Z
          have Z := Lib.hid (heap_below Blz.out hb12)
          clear Blz
          have Blz := Z
          clear Z
          have Z := Lib.hid (Row.below R2.out hb12)
          clear R2
          have R2 := Z
          clear Z
          have BB13 := Lib.hid (bThen BB10.out hb12)
          clear hb12
          go_upto_region 6 with fail
          obtain ⟨W14, hW15⟩ : ∃ X, X = (w11).alloc (.cells #[.int .i64 xg, .int .i64 xn, .int .i64 xo, .string xb] 56) := ⟨_, rfl⟩
          rw [← hW15]
          have hb16 : Below w11.heap.size w11 W14 := by rw [hW15]; exact bel_alloc (Below.refl _ _) _
          have Nx := Lib.hid (show W14.heap[w11.heap.size]? = some (.cells #[.int .i64 xg, .int .i64 xn, .int .i64 xo, .string xb] 56 (0, 0)) by rw [hW15]; exact heap_at (w11) _ (w11.heap.size) (by simp))
          clear hW15
          have Z := Lib.hid (heap_below Bls.out hb16)
          clear Bls
          have Bls := Z
          clear Z
          have Z := Lib.hid (heap_below Blc.out hb16)
          clear Blc
          have Blc := Z
          clear Z
          have Z := Lib.hid (heap_below Blz.out hb16)
          clear Blz
          have Blz := Z
          clear Z
          have Z := Lib.hid (Row.below R2.out hb16)
          clear R2
          have R2 := Z
          clear Z
          have BB17 := Lib.hid (bThen BB13.out hb16)
          clear hb16
          have Blx := Nx
          clear Nx
          have zs := blk_lt Bls.out
          have xs0 := cellsAt Bls.out 0
          have xs1 := cellsAt Bls.out 1
          have xs2 := cellsAt Bls.out 2
          have fs := frozAt Bls.out
          simp at xs0 xs1 xs2
          have zc := blk_lt Blc.out
          have xc0 := cellsAt Blc.out 0
          have xc1 := cellsAt Blc.out 1
          have xc2 := cellsAt Blc.out 2
          have xc3 := cellsAt Blc.out 3
          have fc := frozAt Blc.out
          simp at xc0 xc1 xc2 xc3
          have zz := blk_lt Blz.out
          have xz0 := cellsAt Blz.out 0
          have xz1 := cellsAt Blz.out 1
          have xz2 := cellsAt Blz.out 2
          have fz := frozAt Blz.out
          simp at xz0 xz1 xz2
          have zx := blk_lt Blx.out
          have xx0 := cellsAt Blx.out 0
          have xx1 := cellsAt Blx.out 1
          have xx2 := cellsAt Blx.out 2
          have xx3 := cellsAt Blx.out 3
          have fx := frozAt Blx.out
          simp at xx0 xx1 xx2 xx3
          cases is with
          | true =>
            have HGG := HG.out
            simp only [AtX] at HGG
            have HSB := same_b (c := ⟨cg, cn, co, cb⟩) HQ.out HFT.out HGG
            obtain ⟨qe, hqe⟩ : ∃ q, (xb.toList == cb.toList) = q := ⟨_, rfl⟩
            have HQE := Lib.hid (HSB.trans hqe)
            have HG2 := Lib.hid HGG
            clear HGG HSB
            cases qe with
            | true =>
              have HOF := HO.out
              unfold takeC at HOF
              rw [if_pos HQ.out, if_pos HFT.out, HG2.out] at HOF
              simp only at HOF
              rw [if_pos HQE.out] at HOF
              subst HOF
              go_wp2_with fail
              exact bodyPost_ret (v := .tuple #[.agg #[.int .i64 g, .int .i64 o, .slice A m cp], .int .i64 0]) (by simp [results, Try.results36, go_sem, xz0, xz1, xz2]) rfl ⟨_, rfl, R1.out.below (belG3 BB17.out (by omega) _ _ _), belG3 BB17.out (by omega) _ _ _⟩
            | false =>
              have HOF := HO.out
              unfold takeC at HOF
              rw [if_pos HQ.out, if_pos HFT.out, HG2.out] at HOF
              simp only at HOF
              rw [if_neg (by rw [HQE.out]; simp)] at HOF
              subst HOF
              go_wp2_with fail
              exact bodyPost_ret (v := .tuple #[.agg #[.int .i64 0, .int .i64 0, .slice none 0 0], .int .i64 200]) (by simp [results, Try.results36, go_sem, xz0, xz1, xz2]) rfl ⟨_, rfl, Row.none_, belG3 BB17.out (by omega) _ _ _⟩
          | false =>
            have HGN := HG.out
            simp only [AtX] at HGN
            have HOA := Lib.hid (outK_all HQ.out HFT.out HGN)
            have HGN2 := Lib.hid HGN
            have HOF := HO.out
            unfold takeC at HOF
            rw [if_pos HQ.out, if_pos HFT.out, HGN] at HOF
            simp only at HOF
            subst HOF
            clear HGN HG
            have hmy := may_of HBM.out
            simp only at hmy
            have hco1 := hmy.1
            have hco2 := hmy.2.1
            clear hmy
            go_upto_region 11 with fail
            have Ls := Lib.hid (blk_lt Bls.out)
            have Lc := Lib.hid (blk_lt Blc.out)
            have Lz := Lib.hid (blk_lt Blz.out)
            clear zs fs xs0 xs1 xs2 zc fc xc0 xc1 xc2 xc3 zz fz xz0 xz1 xz2 zx fx xx0 xx1 xx2 xx3
            obtain ⟨W18, hW19⟩ : ∃ X, X = (W14).alloc (.cells #[.int .i64 g, .int .i64 co, .slice none 0 0] 52) := ⟨_, rfl⟩
            rw [← hW19]
            have hb20 : Below W14.heap.size W14 W18 := by rw [hW19]; exact bel_alloc (Below.refl _ _) _
            have No := Lib.hid (show W18.heap[W14.heap.size]? = some (.cells #[.int .i64 g, .int .i64 co, .slice none 0 0] 52 (0, 0)) by rw [hW19]; exact heap_at (W14) _ (W14.heap.size) (by simp))
            clear hW19
            have Z := Lib.hid (heap_below Bls.out hb20)
            clear Bls
            have Bls := Z
            clear Z
            have Z := Lib.hid (heap_below Blc.out hb20)
            clear Blc
            have Blc := Z
            clear Z
            have Z := Lib.hid (heap_below Blz.out hb20)
            clear Blz
            have Blz := Z
            clear Z
            have Z := Lib.hid (heap_below Blx.out hb20)
            clear Blx
            have Blx := Z
            clear Z
            have Z := Lib.hid (Row.below R2.out hb20)
            clear R2
            have R2 := Z
            clear Z
            have BB21 := Lib.hid (bThen BB17.out hb20)
            clear hb20
            have Blo := No
            clear No
            have hbo : w.heap.size ≤ W14.heap.size := BB17.out.size
            have OUT := Lib.hid (show OutAt W14.heap.size g co (outK l ⟨cg, cn, co, cb⟩ 0) 0 none 0 W18 from ⟨rfl, Blo.out, World.ownsRow_nil _ _ _ _⟩)
            have BO := Lib.hid (show BelN (W14.heap.size) W18 W18 from ⟨Nat.le_of_lt (blk_lt Blo.out), Below.refl _ _⟩)
            clear Blo Blx
            go_wp2_with fail
            go_loopw [9] (fun i wr => TrRel (W14.heap.size) g co l ⟨cg, cn, co, cb⟩ W18 i wr) (fun i _ => (co - intOf i).toNat)
            case atStart => exact ⟨0, 0, none, 0, by simp only; omega, rfl, OUT.out, BO.out⟩
            case round =>
              clear OUT BO
              obtain ⟨k, n, Ao, c0, hk, rfl, hout, hbo2⟩ := hrel
              simp only at hk
              have OUT := Lib.hid hout
              have BO := Lib.hid hbo2
              have Z := Lib.hid ((hbo2.2.block _ Ls.out).trans Bls.out)
              clear Bls
              have Bls := Z
              clear Z
              have Z := Lib.hid ((hbo2.2.block _ Lc.out).trans Blc.out)
              clear Blc
              have Blc := Z
              clear Z
              have Z := Lib.hid ((hbo2.2.block _ Lz.out).trans Blz.out)
              clear Blz
              have Blz := Z
              clear Z
              have BBr := Lib.hid (BB21.out.trans (hbo2.2.mono hbo))
              clear R2
              have R2 := Lib.hid (R1.out.below BBr.out)
              have hn2 : n ≤ 2 * k := by rw [hout.1]; exact outK_le _ _ _
              clear hout hbo2
              by_cases hlt : (k : Int) < co
              · obtain ⟨⟨⟨yg, yn, yo, yb⟩, there⟩, hr2⟩ : ∃ r, atG l (k : Int) = r := ⟨_, rfl⟩
                have HG3 := Lib.hid (atG_x hr2)
                have HR3 := Lib.hid hr2
                clear hr2
                have zs := blk_lt Bls.out
                have xs0 := cellsAt Bls.out 0
                have xs1 := cellsAt Bls.out 1
                have xs2 := cellsAt Bls.out 2
                have fs := frozAt Bls.out
                simp at xs0 xs1 xs2
                have zc := blk_lt Blc.out
                have xc0 := cellsAt Blc.out 0
                have xc1 := cellsAt Blc.out 1
                have xc2 := cellsAt Blc.out 2
                have xc3 := cellsAt Blc.out 3
                have fc := frozAt Blc.out
                simp at xc0 xc1 xc2 xc3
                go_wp2_with fail
                refine (HAT.out _ (k : Int) _ HR3.out R2.out).mono ?_
                rintro e w22 ⟨rfl, hb23⟩
                clear zs fs xs0 xs1 xs2 zc fc xc0 xc1 xc2 xc3
                have Z := Lib.hid (heap_below Bls.out hb23)
                clear Bls
                have Bls := Z
                clear Z
                have Z := Lib.hid (heap_below Blc.out hb23)
                clear Blc
                have Blc := Z
                clear Z
                have Z := Lib.hid (heap_below Blz.out hb23)
                clear Blz
                have Blz := Z
                clear Z
                have Z := Lib.hid (Row.below R2.out hb23)
                clear R2
                have R2 := Z
                clear Z
                have Z := Lib.hid (OutAt.below OUT.out hb23)
                clear OUT
                have OUT := Z
                clear Z
                have Z := Lib.hid (BelN.thn BO.out hb23)
                clear BO
                have BO := Z
                clear Z
                have BB24 := Lib.hid (bThen BBr.out hb23)
                clear hb23
                go_upto_region 15 with fail
                obtain ⟨W25, hW26⟩ : ∃ X, X = (w22).alloc (.cells #[.int .i64 yg, .int .i64 yn, .int .i64 yo, .string yb] 56) := ⟨_, rfl⟩
                rw [← hW26]
                have hb27 : Below w22.heap.size w22 W25 := by rw [hW26]; exact bel_alloc (Below.refl _ _) _
                have Ny := Lib.hid (show W25.heap[w22.heap.size]? = some (.cells #[.int .i64 yg, .int .i64 yn, .int .i64 yo, .string yb] 56 (0, 0)) by rw [hW26]; exact heap_at (w22) _ (w22.heap.size) (by simp))
                clear hW26
                have Z := Lib.hid (heap_below Bls.out hb27)
                clear Bls
                have Bls := Z
                clear Z
                have Z := Lib.hid (heap_below Blc.out hb27)
                clear Blc
                have Blc := Z
                clear Z
                have Z := Lib.hid (heap_below Blz.out hb27)
                clear Blz
                have Blz := Z
                clear Z
                have Z := Lib.hid (Row.below R2.out hb27)
                clear R2
                have R2 := Z
                clear Z
                have Z := Lib.hid (OutAt.below OUT.out hb27)
                clear OUT
                have OUT := Z
                clear Z
                have Z := Lib.hid (BelN.thn BO.out hb27)
                clear BO
                have BO := Z
                clear Z
                have BB28 := Lib.hid (bThen BB24.out hb27)
                clear hb27
                have Bly := Ny
                clear Ny
                cases there with
                | true =>
                  have HG4 := Lib.hid (show getC l (k : Int) = some ⟨yg, yn, yo, yb⟩ from HG3.out)
                  clear HG3
                  have hne : ¬ cn = (k : Int) := by intro e; have h := HGN2.out; rw [e, HG4.out] at h; cases h
                  have hnb : ((k : Int) == cn) = false := by simp; omega
                  have hnb2 : (cn == (k : Int)) = false := by simpa using hne
                  have zy := blk_lt Bly.out
                  have xy0 := cellsAt Bly.out 0
                  have xy1 := cellsAt Bly.out 1
                  have xy2 := cellsAt Bly.out 2
                  have xy3 := cellsAt Bly.out 3
                  have fy := frozAt Bly.out
                  simp at xy0 xy1 xy2 xy3
                  have hsz0 := Nat.le_trans BO.out.1 BO.out.2.size
                  have hsz1 : W14.heap.size + 1 ≤ W25.heap.size := Nat.succ_le_of_lt (blk_lt OUT.out.2.1)
                  have yo0 := cellsAt OUT.out.2.1 0
                  have yo1 := cellsAt OUT.out.2.1 1
                  have yo2 := cellsAt OUT.out.2.1 2
                  have fyo := frozAt OUT.out.2.1
                  have zyo := blk_lt OUT.out.2.1
                  simp at yo0 yo1 yo2
                  go_wp2_with (at_builtin; refine wpList_push _ rfl _ _ 50 rfl (W14.heap.size + 1) 56 i0 (.agg #[.int .i64 0, .int .i64 0, .int .i64 0, .string ⟨#[]⟩]) 4 40 Try.underlying50 HI.out HZ0.out HZ1.out HZ2.out rfl (by decide) _ _ _ rfl OUT.out.2.2 #[.int .i64 yg, .int .i64 yn, .int .i64 yo, .string yb] 56 rfl rfl (by intro u hu; simp at hu; rcases hu with rfl | rfl | rfl | rfl <;> rfl) (by unfold maxLen; omega) (by omega) hsz1 ?_)
                  intro v5 W5 hown5 BG _
                  obtain ⟨A5, c5, rfl⟩ := own_slice hown5
                  have O2 := Lib.hid (OUT.out.push (x := ⟨yg, yn, yo, yb⟩) BG hown5)
                  have N2 := Lib.hid (BO.out.push BG (.slice A5 (n + 1) c5))
                  have C2 := Lib.hid (push_other Blc.out Lc.out BG (.slice A5 (n + 1) c5))
                  clear zy fy xy0 xy1 xy2 xy3 yo0 yo1 yo2 fyo zyo
                  have yo0 := cellsAt ((BG.block _ (Nat.lt_succ_self _)).trans OUT.out.2.1) 0
                  have yo1 := cellsAt ((BG.block _ (Nat.lt_succ_self _)).trans OUT.out.2.1) 1
                  have yo2 := cellsAt ((BG.block _ (Nat.lt_succ_self _)).trans OUT.out.2.1) 2
                  have fyo := frozAt ((BG.block _ (Nat.lt_succ_self _)).trans OUT.out.2.1)
                  have zyo := blk_lt ((BG.block _ (Nat.lt_succ_self _)).trans OUT.out.2.1)
                  simp at yo0 yo1 yo2
                  go_upto_region 17 with fail
                  clear yo0 yo1 yo2 fyo zyo hsz0 hsz1 OUT BO Blc hown5 BG
                  generalize W5.setCell ⟨W14.heap.size, 2, none⟩ (.slice A5 (n + 1) c5) = X5 at *
                  have OUT := O2
                  have BO := N2
                  have Blc := C2
                  clear O2 N2 C2
                  have zc := blk_lt Blc.out
                  have xc0 := cellsAt Blc.out 0
                  have xc1 := cellsAt Blc.out 1
                  have xc2 := cellsAt Blc.out 2
                  have xc3 := cellsAt Blc.out 3
                  have fc := frozAt Blc.out
                  simp at xc0 xc1 xc2 xc3
                  go_wp2_with fail
                  go_roundw
                  case rel =>
                    refine ⟨k + 1, n + 1, A5, c5, by simp only; omega, by go_num, ?_, BO.out⟩
                    have h := OUT.out
                    rw [outK, HG4.out, if_neg hne, List.append_nil]
                    exact h
                  case measure => simp [intOf]; omega
                | false =>
                  have HG4 := Lib.hid (show getC l (k : Int) = none from HG3.out)
                  clear HG3
                  by_cases hne : cn = (k : Int)
                  · have hnb : ((k : Int) == cn) = true := by simp; omega
                    have hnb2 : (cn == (k : Int)) = true := by simpa using hne
                    have HNE := Lib.hid hne
                    clear hne
                    have zc := blk_lt Blc.out
                    have xc0 := cellsAt Blc.out 0
                    have xc1 := cellsAt Blc.out 1
                    have xc2 := cellsAt Blc.out 2
                    have xc3 := cellsAt Blc.out 3
                    have fc := frozAt Blc.out
                    simp at xc0 xc1 xc2 xc3
                    have hsz0 := Nat.le_trans BO.out.1 BO.out.2.size
                    have hsz1 : W14.heap.size + 1 ≤ W25.heap.size := Nat.succ_le_of_lt (blk_lt OUT.out.2.1)
                    have yo0 := cellsAt OUT.out.2.1 0
                    have yo1 := cellsAt OUT.out.2.1 1
                    have yo2 := cellsAt OUT.out.2.1 2
                    have fyo := frozAt OUT.out.2.1
                    have zyo := blk_lt OUT.out.2.1
                    simp at yo0 yo1 yo2
                    go_wp2_with (at_builtin; refine wpList_push _ rfl _ _ 50 rfl (W14.heap.size + 1) 56 i0 (.agg #[.int .i64 0, .int .i64 0, .int .i64 0, .string ⟨#[]⟩]) 4 40 Try.underlying50 HI.out HZ0.out HZ1.out HZ2.out rfl (by decide) _ _ _ rfl OUT.out.2.2 #[.int .i64 cg, .int .i64 cn, .int .i64 co, .string cb] 56 rfl rfl (by intro u hu; simp at hu; rcases hu with rfl | rfl | rfl | rfl <;> rfl) (by unfold maxLen; omega) (by omega) hsz1 ?_)
                    intro v5 W5 hown5 BG _
                    obtain ⟨A5, c5, rfl⟩ := own_slice hown5
                    have O2 := Lib.hid (OUT.out.push (x := ⟨cg, cn, co, cb⟩) BG hown5)
                    have N2 := Lib.hid (BO.out.push BG (.slice A5 (n + 1) c5))
                    have C2 := Lib.hid (push_other Blc.out Lc.out BG (.slice A5 (n + 1) c5))
                    clear zc fc xc0 xc1 xc2 xc3 yo0 yo1 yo2 fyo zyo
                    have yo0 := cellsAt ((BG.block _ (Nat.lt_succ_self _)).trans OUT.out.2.1) 0
                    have yo1 := cellsAt ((BG.block _ (Nat.lt_succ_self _)).trans OUT.out.2.1) 1
                    have yo2 := cellsAt ((BG.block _ (Nat.lt_succ_self _)).trans OUT.out.2.1) 2
                    have fyo := frozAt ((BG.block _ (Nat.lt_succ_self _)).trans OUT.out.2.1)
                    have zyo := blk_lt ((BG.block _ (Nat.lt_succ_self _)).trans OUT.out.2.1)
                    simp at yo0 yo1 yo2
                    go_wp2_with fail
                    clear yo0 yo1 yo2 fyo zyo hsz0 hsz1 OUT BO Blc hown5 BG
                    have OUT := O2
                    have BO := N2
                    have Blc := C2
                    clear O2 N2 C2
                    go_roundw
                    case rel =>
                      refine ⟨k + 1, n + 1, A5, c5, by simp only; omega, by go_num, ?_, BO.out⟩
                      have h := OUT.out
                      rw [outK, HG4.out, if_pos HNE.out]
                      exact h
                    case measure => simp [intOf]; omega
                  · have hnb : ((k : Int) == cn) = false := by simp; omega
                    have hnb2 : (cn == (k : Int)) = false := by simpa using hne
                    have zc := blk_lt Blc.out
                    have xc0 := cellsAt Blc.out 0
                    have xc1 := cellsAt Blc.out 1
                    have xc2 := cellsAt Blc.out 2
                    have xc3 := cellsAt Blc.out 3
                    have fc := frozAt Blc.out
                    simp at xc0 xc1 xc2 xc3
                    go_wp2_with fail
                    go_roundw
                    case rel =>
                      refine ⟨k + 1, n, Ao, c0, by simp only; omega, by go_num, ?_, BO.out⟩
                      have h := OUT.out
                      rw [outK, HG4.out, if_neg hne, Option.toList_none, List.nil_append, List.append_nil]
                      exact h
                    case measure => simp [intOf]; omega
              · have hkk : (k : Int) = co := by omega
                have zs := blk_lt Bls.out
                have xs0 := cellsAt Bls.out 0
                have xs1 := cellsAt Bls.out 1
                have xs2 := cellsAt Bls.out 2
                have fs := frozAt Bls.out
                simp at xs0 xs1 xs2
                have zc := blk_lt Blc.out
                have xc0 := cellsAt Blc.out 0
                have xc1 := cellsAt Blc.out 1
                have xc2 := cellsAt Blc.out 2
                have xc3 := cellsAt Blc.out 3
                have fc := frozAt Blc.out
                simp at xc0 xc1 xc2 xc3
                have zz := blk_lt Blz.out
                have xz0 := cellsAt Blz.out 0
                have xz1 := cellsAt Blz.out 1
                have xz2 := cellsAt Blz.out 2
                have fz := frozAt Blz.out
                simp at xz0 xz1 xz2
                have yo0 := cellsAt OUT.out.2.1 0
                have yo1 := cellsAt OUT.out.2.1 1
                have yo2 := cellsAt OUT.out.2.1 2
                have fyo := frozAt OUT.out.2.1
                have zyo := blk_lt OUT.out.2.1
                simp at yo0 yo1 yo2
                go_wp2_with fail
                have OH := OUT.out.2.2
                have hnl := OUT.out.1
                have hkt : (co).toNat = k := by omega
                have h := HOA.out
                rw [hkt] at h
                rw [h] at OH hnl
                have HZL := Lib.hid (show w.heap.size + 1 + 1 < W14.heap.size from Lz.out)
                have Ez := Lib.hid (setG3 Blz.out (.int .i64 g) (.int .i64 co) (.slice Ao n c0))
                have BE := Lib.hid (belG3 BBr.out (g := w.heap.size + 1 + 1) (by omega) (.int .i64 g) (.int .i64 co) (.slice Ao n c0))
                have O9 := Lib.hid (ownG3 OH (g := w.heap.size + 1 + 1) (by have := HZL.out; omega) (.int .i64 g) (.int .i64 co) (.slice Ao n c0))
                clear zs fs xs0 xs1 xs2 zc fc xc0 xc1 xc2 xc3 zz fz xz0 xz1 xz2 yo0 yo1 yo2 fyo zyo
                generalize (((wr).setCell ⟨w.heap.size + 1 + 1, 0, none⟩ (.int .i64 g)).setCell ⟨w.heap.size + 1 + 1, 1, none⟩ (.int .i64 co)).setCell ⟨w.heap.size + 1 + 1, 2, none⟩ (.slice Ao n c0) = W9 at *
                have e0 := cellsAt Ez.out 0
                have e1 := cellsAt Ez.out 1
                have e2 := cellsAt Ez.out 2
                simp at e0 e1 e2
                exact bodyPost_ret (v := .tuple #[.agg #[.int .i64 g, .int .i64 co, .slice Ao n c0], .int .i64 0]) (by simp [results, Try.results36, go_sem, e0, e1, e2]) rfl ⟨_, rfl, Row.of_own Ck.cs_len O9.out hnl, BE.out⟩
        · have t0 : decide (0 < o) = true := by simp; omega
          by_cases ho1 : co = o
          · have t1 : (co == o) = true := by simpa using ho1
            have t12 : decide (co = o) = true := by simpa using ho1
            have t13 : (co != o) = false := by simpa using ho1
            have HO1 := Lib.hid ho1
            clear ho1
            have HFT := Lib.hid (show fitB g o ⟨cg, cn, co, cb⟩ = true by unfold fitB; rw [HBM.out]; simp; exact ⟨hg1, .inr HO1.out.symm⟩)
            clear hg1 ho0 ho00
            obtain ⟨⟨⟨xg, xn, xo, xb⟩, is⟩, hr⟩ : ∃ r, atG l cn = r := ⟨_, rfl⟩
            have HG := Lib.hid (atG_x hr)
            have HRR := Lib.hid hr
            clear hr
            go_wp2_with fail
            refine (HAT.out _ cn _ HRR.out R2.out).mono ?_
            rintro e w11 ⟨rfl, hb12⟩
            clear zs fs xs0 xs1 xs2 zc fc xc0 xc1 xc2 xc3 zz fz xz0 xz1 xz2
            have Z := Lib.hid (heap_below Bls.out hb12)
            clear Bls
            have Bls := Z
            clear Z
            have Z := Lib.hid (heap_below Blc.out hb12)
            clear Blc
            have Blc := Z
            clear Z
            have Z := Lib.hid (heap_below Blz.out hb12)
            clear Blz
            have Blz := Z
            clear Z
            have Z := Lib.hid (Row.below R2.out hb12)
            clear R2
            have R2 := Z
            clear Z
            have BB13 := Lib.hid (bThen BB10.out hb12)
            clear hb12
            go_upto_region 6 with fail
            obtain ⟨W14, hW15⟩ : ∃ X, X = (w11).alloc (.cells #[.int .i64 xg, .int .i64 xn, .int .i64 xo, .string xb] 56) := ⟨_, rfl⟩
            rw [← hW15]
            have hb16 : Below w11.heap.size w11 W14 := by rw [hW15]; exact bel_alloc (Below.refl _ _) _
            have Nx := Lib.hid (show W14.heap[w11.heap.size]? = some (.cells #[.int .i64 xg, .int .i64 xn, .int .i64 xo, .string xb] 56 (0, 0)) by rw [hW15]; exact heap_at (w11) _ (w11.heap.size) (by simp))
            clear hW15
            have Z := Lib.hid (heap_below Bls.out hb16)
            clear Bls
            have Bls := Z
            clear Z
            have Z := Lib.hid (heap_below Blc.out hb16)
            clear Blc
            have Blc := Z
            clear Z
            have Z := Lib.hid (heap_below Blz.out hb16)
            clear Blz
            have Blz := Z
            clear Z
            have Z := Lib.hid (Row.below R2.out hb16)
            clear R2
            have R2 := Z
            clear Z
            have BB17 := Lib.hid (bThen BB13.out hb16)
            clear hb16
            have Blx := Nx
            clear Nx
            have zs := blk_lt Bls.out
            have xs0 := cellsAt Bls.out 0
            have xs1 := cellsAt Bls.out 1
            have xs2 := cellsAt Bls.out 2
            have fs := frozAt Bls.out
            simp at xs0 xs1 xs2
            have zc := blk_lt Blc.out
            have xc0 := cellsAt Blc.out 0
            have xc1 := cellsAt Blc.out 1
            have xc2 := cellsAt Blc.out 2
            have xc3 := cellsAt Blc.out 3
            have fc := frozAt Blc.out
            simp at xc0 xc1 xc2 xc3
            have zz := blk_lt Blz.out
            have xz0 := cellsAt Blz.out 0
            have xz1 := cellsAt Blz.out 1
            have xz2 := cellsAt Blz.out 2
            have fz := frozAt Blz.out
            simp at xz0 xz1 xz2
            have zx := blk_lt Blx.out
            have xx0 := cellsAt Blx.out 0
            have xx1 := cellsAt Blx.out 1
            have xx2 := cellsAt Blx.out 2
            have xx3 := cellsAt Blx.out 3
            have fx := frozAt Blx.out
            simp at xx0 xx1 xx2 xx3
            cases is with
            | true =>
              have HGG := HG.out
              simp only [AtX] at HGG
              have HSB := same_b (c := ⟨cg, cn, co, cb⟩) HQ.out HFT.out HGG
              obtain ⟨qe, hqe⟩ : ∃ q, (xb.toList == cb.toList) = q := ⟨_, rfl⟩
              have HQE := Lib.hid (HSB.trans hqe)
              have HG2 := Lib.hid HGG
              clear HGG HSB
              cases qe with
              | true =>
                have HOF := HO.out
                unfold takeC at HOF
                rw [if_pos HQ.out, if_pos HFT.out, HG2.out] at HOF
                simp only at HOF
                rw [if_pos HQE.out] at HOF
                subst HOF
                go_wp2_with fail
                exact bodyPost_ret (v := .tuple #[.agg #[.int .i64 g, .int .i64 o, .slice A m cp], .int .i64 0]) (by simp [results, Try.results36, go_sem, xz0, xz1, xz2]) rfl ⟨_, rfl, R1.out.below (belG3 BB17.out (by omega) _ _ _), belG3 BB17.out (by omega) _ _ _⟩
              | false =>
                have HOF := HO.out
                unfold takeC at HOF
                rw [if_pos HQ.out, if_pos HFT.out, HG2.out] at HOF
                simp only at HOF
                rw [if_neg (by rw [HQE.out]; simp)] at HOF
                subst HOF
                go_wp2_with fail
                exact bodyPost_ret (v := .tuple #[.agg #[.int .i64 0, .int .i64 0, .slice none 0 0], .int .i64 200]) (by simp [results, Try.results36, go_sem, xz0, xz1, xz2]) rfl ⟨_, rfl, Row.none_, belG3 BB17.out (by omega) _ _ _⟩
            | false =>
              have HGN := HG.out
              simp only [AtX] at HGN
              have HOA := Lib.hid (outK_all HQ.out HFT.out HGN)
              have HGN2 := Lib.hid HGN
              have HOF := HO.out
              unfold takeC at HOF
              rw [if_pos HQ.out, if_pos HFT.out, HGN] at HOF
              simp only at HOF
              subst HOF
              clear HGN HG
              have hmy := may_of HBM.out
              simp only at hmy
              have hco1 := hmy.1
              have hco2 := hmy.2.1
              clear hmy
              go_upto_region 11 with fail
              have Ls := Lib.hid (blk_lt Bls.out)
              have Lc := Lib.hid (blk_lt Blc.out)
              have Lz := Lib.hid (blk_lt Blz.out)
              clear zs fs xs0 xs1 xs2 zc fc xc0 xc1 xc2 xc3 zz fz xz0 xz1 xz2 zx fx xx0 xx1 xx2 xx3
              obtain ⟨W18, hW19⟩ : ∃ X, X = (W14).alloc (.cells #[.int .i64 g, .int .i64 co, .slice none 0 0] 52) := ⟨_, rfl⟩
              rw [← hW19]
              have hb20 : Below W14.heap.size W14 W18 := by rw [hW19]; exact bel_alloc (Below.refl _ _) _
              have No := Lib.hid (show W18.heap[W14.heap.size]? = some (.cells #[.int .i64 g, .int .i64 co, .slice none 0 0] 52 (0, 0)) by rw [hW19]; exact heap_at (W14) _ (W14.heap.size) (by simp))
              clear hW19
              have Z := Lib.hid (heap_below Bls.out hb20)
              clear Bls
              have Bls := Z
              clear Z
              have Z := Lib.hid (heap_below Blc.out hb20)
              clear Blc
              have Blc := Z
              clear Z
              have Z := Lib.hid (heap_below Blz.out hb20)
              clear Blz
              have Blz := Z
              clear Z
              have Z := Lib.hid (heap_below Blx.out hb20)
              clear Blx
              have Blx := Z
              clear Z
              have Z := Lib.hid (Row.below R2.out hb20)
              clear R2
              have R2 := Z
              clear Z
              have BB21 := Lib.hid (bThen BB17.out hb20)
              clear hb20
              have Blo := No
              clear No
              have hbo : w.heap.size ≤ W14.heap.size := BB17.out.size
              have OUT := Lib.hid (show OutAt W14.heap.size g co (outK l ⟨cg, cn, co, cb⟩ 0) 0 none 0 W18 from ⟨rfl, Blo.out, World.ownsRow_nil _ _ _ _⟩)
              have BO := Lib.hid (show BelN (W14.heap.size) W18 W18 from ⟨Nat.le_of_lt (blk_lt Blo.out), Below.refl _ _⟩)
              clear Blo Blx
              go_wp2_with fail
              go_loopw [9] (fun i wr => TrRel (W14.heap.size) g co l ⟨cg, cn, co, cb⟩ W18 i wr) (fun i _ => (co - intOf i).toNat)
              case atStart => exact ⟨0, 0, none, 0, by simp only; omega, rfl, OUT.out, BO.out⟩
              case round =>
                clear OUT BO
                obtain ⟨k, n, Ao, c0, hk, rfl, hout, hbo2⟩ := hrel
                simp only at hk
                have OUT := Lib.hid hout
                have BO := Lib.hid hbo2
                have Z := Lib.hid ((hbo2.2.block _ Ls.out).trans Bls.out)
                clear Bls
                have Bls := Z
                clear Z
                have Z := Lib.hid ((hbo2.2.block _ Lc.out).trans Blc.out)
                clear Blc
                have Blc := Z
                clear Z
                have Z := Lib.hid ((hbo2.2.block _ Lz.out).trans Blz.out)
                clear Blz
                have Blz := Z
                clear Z
                have BBr := Lib.hid (BB21.out.trans (hbo2.2.mono hbo))
                clear R2
                have R2 := Lib.hid (R1.out.below BBr.out)
                have hn2 : n ≤ 2 * k := by rw [hout.1]; exact outK_le _ _ _
                clear hout hbo2
                by_cases hlt : (k : Int) < co
                · obtain ⟨⟨⟨yg, yn, yo, yb⟩, there⟩, hr2⟩ : ∃ r, atG l (k : Int) = r := ⟨_, rfl⟩
                  have HG3 := Lib.hid (atG_x hr2)
                  have HR3 := Lib.hid hr2
                  clear hr2
                  have zs := blk_lt Bls.out
                  have xs0 := cellsAt Bls.out 0
                  have xs1 := cellsAt Bls.out 1
                  have xs2 := cellsAt Bls.out 2
                  have fs := frozAt Bls.out
                  simp at xs0 xs1 xs2
                  have zc := blk_lt Blc.out
                  have xc0 := cellsAt Blc.out 0
                  have xc1 := cellsAt Blc.out 1
                  have xc2 := cellsAt Blc.out 2
                  have xc3 := cellsAt Blc.out 3
                  have fc := frozAt Blc.out
                  simp at xc0 xc1 xc2 xc3
                  go_wp2_with fail
                  refine (HAT.out _ (k : Int) _ HR3.out R2.out).mono ?_
                  rintro e w22 ⟨rfl, hb23⟩
                  clear zs fs xs0 xs1 xs2 zc fc xc0 xc1 xc2 xc3
                  have Z := Lib.hid (heap_below Bls.out hb23)
                  clear Bls
                  have Bls := Z
                  clear Z
                  have Z := Lib.hid (heap_below Blc.out hb23)
                  clear Blc
                  have Blc := Z
                  clear Z
                  have Z := Lib.hid (heap_below Blz.out hb23)
                  clear Blz
                  have Blz := Z
                  clear Z
                  have Z := Lib.hid (Row.below R2.out hb23)
                  clear R2
                  have R2 := Z
                  clear Z
                  have Z := Lib.hid (OutAt.below OUT.out hb23)
                  clear OUT
                  have OUT := Z
                  clear Z
                  have Z := Lib.hid (BelN.thn BO.out hb23)
                  clear BO
                  have BO := Z
                  clear Z
                  have BB24 := Lib.hid (bThen BBr.out hb23)
                  clear hb23
                  go_upto_region 15 with fail
                  obtain ⟨W25, hW26⟩ : ∃ X, X = (w22).alloc (.cells #[.int .i64 yg, .int .i64 yn, .int .i64 yo, .string yb] 56) := ⟨_, rfl⟩
                  rw [← hW26]
                  have hb27 : Below w22.heap.size w22 W25 := by rw [hW26]; exact bel_alloc (Below.refl _ _) _
                  have Ny := Lib.hid (show W25.heap[w22.heap.size]? = some (.cells #[.int .i64 yg, .int .i64 yn, .int .i64 yo, .string yb] 56 (0, 0)) by rw [hW26]; exact heap_at (w22) _ (w22.heap.size) (by simp))
                  clear hW26
                  have Z := Lib.hid (heap_below Bls.out hb27)
                  clear Bls
                  have Bls := Z
                  clear Z
                  have Z := Lib.hid (heap_below Blc.out hb27)
                  clear Blc
                  have Blc := Z
                  clear Z
                  have Z := Lib.hid (heap_below Blz.out hb27)
                  clear Blz
                  have Blz := Z
                  clear Z
                  have Z := Lib.hid (Row.below R2.out hb27)
                  clear R2
                  have R2 := Z
                  clear Z
                  have Z := Lib.hid (OutAt.below OUT.out hb27)
                  clear OUT
                  have OUT := Z
                  clear Z
                  have Z := Lib.hid (BelN.thn BO.out hb27)
                  clear BO
                  have BO := Z
                  clear Z
                  have BB28 := Lib.hid (bThen BB24.out hb27)
                  clear hb27
                  have Bly := Ny
                  clear Ny
                  cases there with
                  | true =>
                    have HG4 := Lib.hid (show getC l (k : Int) = some ⟨yg, yn, yo, yb⟩ from HG3.out)
                    clear HG3
                    have hne : ¬ cn = (k : Int) := by intro e; have h := HGN2.out; rw [e, HG4.out] at h; cases h
                    have hnb : ((k : Int) == cn) = false := by simp; omega
                    have hnb2 : (cn == (k : Int)) = false := by simpa using hne
                    have zy := blk_lt Bly.out
                    have xy0 := cellsAt Bly.out 0
                    have xy1 := cellsAt Bly.out 1
                    have xy2 := cellsAt Bly.out 2
                    have xy3 := cellsAt Bly.out 3
                    have fy := frozAt Bly.out
                    simp at xy0 xy1 xy2 xy3
                    have hsz0 := Nat.le_trans BO.out.1 BO.out.2.size
                    have hsz1 : W14.heap.size + 1 ≤ W25.heap.size := Nat.succ_le_of_lt (blk_lt OUT.out.2.1)
                    have yo0 := cellsAt OUT.out.2.1 0
                    have yo1 := cellsAt OUT.out.2.1 1
                    have yo2 := cellsAt OUT.out.2.1 2
                    have fyo := frozAt OUT.out.2.1
                    have zyo := blk_lt OUT.out.2.1
                    simp at yo0 yo1 yo2
                    go_wp2_with (at_builtin; refine wpList_push _ rfl _ _ 50 rfl (W14.heap.size + 1) 56 i0 (.agg #[.int .i64 0, .int .i64 0, .int .i64 0, .string ⟨#[]⟩]) 4 40 Try.underlying50 HI.out HZ0.out HZ1.out HZ2.out rfl (by decide) _ _ _ rfl OUT.out.2.2 #[.int .i64 yg, .int .i64 yn, .int .i64 yo, .string yb] 56 rfl rfl (by intro u hu; simp at hu; rcases hu with rfl | rfl | rfl | rfl <;> rfl) (by unfold maxLen; omega) (by omega) hsz1 ?_)
                    intro v5 W5 hown5 BG _
                    obtain ⟨A5, c5, rfl⟩ := own_slice hown5
                    have O2 := Lib.hid (OUT.out.push (x := ⟨yg, yn, yo, yb⟩) BG hown5)
                    have N2 := Lib.hid (BO.out.push BG (.slice A5 (n + 1) c5))
                    have C2 := Lib.hid (push_other Blc.out Lc.out BG (.slice A5 (n + 1) c5))
                    clear zy fy xy0 xy1 xy2 xy3 yo0 yo1 yo2 fyo zyo
                    have yo0 := cellsAt ((BG.block _ (Nat.lt_succ_self _)).trans OUT.out.2.1) 0
                    have yo1 := cellsAt ((BG.block _ (Nat.lt_succ_self _)).trans OUT.out.2.1) 1
                    have yo2 := cellsAt ((BG.block _ (Nat.lt_succ_self _)).trans OUT.out.2.1) 2
                    have fyo := frozAt ((BG.block _ (Nat.lt_succ_self _)).trans OUT.out.2.1)
                    have zyo := blk_lt ((BG.block _ (Nat.lt_succ_self _)).trans OUT.out.2.1)
                    simp at yo0 yo1 yo2
                    go_upto_region 17 with fail
                    clear yo0 yo1 yo2 fyo zyo hsz0 hsz1 OUT BO Blc hown5 BG
                    generalize W5.setCell ⟨W14.heap.size, 2, none⟩ (.slice A5 (n + 1) c5) = X5 at *
                    have OUT := O2
                    have BO := N2
                    have Blc := C2
                    clear O2 N2 C2
                    have zc := blk_lt Blc.out
                    have xc0 := cellsAt Blc.out 0
                    have xc1 := cellsAt Blc.out 1
                    have xc2 := cellsAt Blc.out 2
                    have xc3 := cellsAt Blc.out 3
                    have fc := frozAt Blc.out
                    simp at xc0 xc1 xc2 xc3
                    go_wp2_with fail
                    go_roundw
                    case rel =>
                      refine ⟨k + 1, n + 1, A5, c5, by simp only; omega, by go_num, ?_, BO.out⟩
                      have h := OUT.out
                      rw [outK, HG4.out, if_neg hne, List.append_nil]
                      exact h
                    case measure => simp [intOf]; omega
                  | false =>
                    have HG4 := Lib.hid (show getC l (k : Int) = none from HG3.out)
                    clear HG3
                    by_cases hne : cn = (k : Int)
                    · have hnb : ((k : Int) == cn) = true := by simp; omega
                      have hnb2 : (cn == (k : Int)) = true := by simpa using hne
                      have HNE := Lib.hid hne
                      clear hne
                      have zc := blk_lt Blc.out
                      have xc0 := cellsAt Blc.out 0
                      have xc1 := cellsAt Blc.out 1
                      have xc2 := cellsAt Blc.out 2
                      have xc3 := cellsAt Blc.out 3
                      have fc := frozAt Blc.out
                      simp at xc0 xc1 xc2 xc3
                      have hsz0 := Nat.le_trans BO.out.1 BO.out.2.size
                      have hsz1 : W14.heap.size + 1 ≤ W25.heap.size := Nat.succ_le_of_lt (blk_lt OUT.out.2.1)
                      have yo0 := cellsAt OUT.out.2.1 0
                      have yo1 := cellsAt OUT.out.2.1 1
                      have yo2 := cellsAt OUT.out.2.1 2
                      have fyo := frozAt OUT.out.2.1
                      have zyo := blk_lt OUT.out.2.1
                      simp at yo0 yo1 yo2
                      go_wp2_with (at_builtin; refine wpList_push _ rfl _ _ 50 rfl (W14.heap.size + 1) 56 i0 (.agg #[.int .i64 0, .int .i64 0, .int .i64 0, .string ⟨#[]⟩]) 4 40 Try.underlying50 HI.out HZ0.out HZ1.out HZ2.out rfl (by decide) _ _ _ rfl OUT.out.2.2 #[.int .i64 cg, .int .i64 cn, .int .i64 co, .string cb] 56 rfl rfl (by intro u hu; simp at hu; rcases hu with rfl | rfl | rfl | rfl <;> rfl) (by unfold maxLen; omega) (by omega) hsz1 ?_)
                      intro v5 W5 hown5 BG _
                      obtain ⟨A5, c5, rfl⟩ := own_slice hown5
                      have O2 := Lib.hid (OUT.out.push (x := ⟨cg, cn, co, cb⟩) BG hown5)
                      have N2 := Lib.hid (BO.out.push BG (.slice A5 (n + 1) c5))
                      have C2 := Lib.hid (push_other Blc.out Lc.out BG (.slice A5 (n + 1) c5))
                      clear zc fc xc0 xc1 xc2 xc3 yo0 yo1 yo2 fyo zyo
                      have yo0 := cellsAt ((BG.block _ (Nat.lt_succ_self _)).trans OUT.out.2.1) 0
                      have yo1 := cellsAt ((BG.block _ (Nat.lt_succ_self _)).trans OUT.out.2.1) 1
                      have yo2 := cellsAt ((BG.block _ (Nat.lt_succ_self _)).trans OUT.out.2.1) 2
                      have fyo := frozAt ((BG.block _ (Nat.lt_succ_self _)).trans OUT.out.2.1)
                      have zyo := blk_lt ((BG.block _ (Nat.lt_succ_self _)).trans OUT.out.2.1)
                      simp at yo0 yo1 yo2
                      go_wp2_with fail
                      clear yo0 yo1 yo2 fyo zyo hsz0 hsz1 OUT BO Blc hown5 BG
                      have OUT := O2
                      have BO := N2
                      have Blc := C2
                      clear O2 N2 C2
                      go_roundw
                      case rel =>
                        refine ⟨k + 1, n + 1, A5, c5, by simp only; omega, by go_num, ?_, BO.out⟩
                        have h := OUT.out
                        rw [outK, HG4.out, if_pos HNE.out]
                        exact h
                      case measure => simp [intOf]; omega
                    · have hnb : ((k : Int) == cn) = false := by simp; omega
                      have hnb2 : (cn == (k : Int)) = false := by simpa using hne
                      have zc := blk_lt Blc.out
                      have xc0 := cellsAt Blc.out 0
                      have xc1 := cellsAt Blc.out 1
                      have xc2 := cellsAt Blc.out 2
                      have xc3 := cellsAt Blc.out 3
                      have fc := frozAt Blc.out
                      simp at xc0 xc1 xc2 xc3
                      go_wp2_with fail
                      go_roundw
                      case rel =>
                        refine ⟨k + 1, n, Ao, c0, by simp only; omega, by go_num, ?_, BO.out⟩
                        have h := OUT.out
                        rw [outK, HG4.out, if_neg hne, Option.toList_none, List.nil_append, List.append_nil]
                        exact h
                      case measure => simp [intOf]; omega
                · have hkk : (k : Int) = co := by omega
                  have zs := blk_lt Bls.out
                  have xs0 := cellsAt Bls.out 0
                  have xs1 := cellsAt Bls.out 1
                  have xs2 := cellsAt Bls.out 2
                  have fs := frozAt Bls.out
                  simp at xs0 xs1 xs2
                  have zc := blk_lt Blc.out
                  have xc0 := cellsAt Blc.out 0
                  have xc1 := cellsAt Blc.out 1
                  have xc2 := cellsAt Blc.out 2
                  have xc3 := cellsAt Blc.out 3
                  have fc := frozAt Blc.out
                  simp at xc0 xc1 xc2 xc3
                  have zz := blk_lt Blz.out
                  have xz0 := cellsAt Blz.out 0
                  have xz1 := cellsAt Blz.out 1
                  have xz2 := cellsAt Blz.out 2
                  have fz := frozAt Blz.out
                  simp at xz0 xz1 xz2
                  have yo0 := cellsAt OUT.out.2.1 0
                  have yo1 := cellsAt OUT.out.2.1 1
                  have yo2 := cellsAt OUT.out.2.1 2
                  have fyo := frozAt OUT.out.2.1
                  have zyo := blk_lt OUT.out.2.1
                  simp at yo0 yo1 yo2
                  go_wp2_with fail
                  have OH := OUT.out.2.2
                  have hnl := OUT.out.1
                  have hkt : (co).toNat = k := by omega
                  have h := HOA.out
                  rw [hkt] at h
                  rw [h] at OH hnl
                  have HZL := Lib.hid (show w.heap.size + 1 + 1 < W14.heap.size from Lz.out)
                  have Ez := Lib.hid (setG3 Blz.out (.int .i64 g) (.int .i64 co) (.slice Ao n c0))
                  have BE := Lib.hid (belG3 BBr.out (g := w.heap.size + 1 + 1) (by omega) (.int .i64 g) (.int .i64 co) (.slice Ao n c0))
                  have O9 := Lib.hid (ownG3 OH (g := w.heap.size + 1 + 1) (by have := HZL.out; omega) (.int .i64 g) (.int .i64 co) (.slice Ao n c0))
                  clear zs fs xs0 xs1 xs2 zc fc xc0 xc1 xc2 xc3 zz fz xz0 xz1 xz2 yo0 yo1 yo2 fyo zyo
                  generalize (((wr).setCell ⟨w.heap.size + 1 + 1, 0, none⟩ (.int .i64 g)).setCell ⟨w.heap.size + 1 + 1, 1, none⟩ (.int .i64 co)).setCell ⟨w.heap.size + 1 + 1, 2, none⟩ (.slice Ao n c0) = W9 at *
                  have e0 := cellsAt Ez.out 0
                  have e1 := cellsAt Ez.out 1
                  have e2 := cellsAt Ez.out 2
                  simp at e0 e1 e2
                  exact bodyPost_ret (v := .tuple #[.agg #[.int .i64 g, .int .i64 co, .slice Ao n c0], .int .i64 0]) (by simp [results, Try.results36, go_sem, e0, e1, e2]) rfl ⟨_, rfl, Row.of_own Ck.cs_len O9.out hnl, BE.out⟩
          · have HOF := HO.out
            have t1 : (co == o) = false := by simpa using ho1
            have t12 : decide (co = o) = false := by simpa using ho1
            have t13 : (co != o) = true := by simpa using ho1
            unfold takeC at HOF
            rw [if_pos HQ.out, if_neg (by unfold fitB; simp; intro _ _; exact ⟨ho0, fun e => ho1 e.symm⟩)] at HOF
            subst HOF
            go_wp2_with fail
            exact bodyPost_ret (v := .tuple #[.agg #[.int .i64 0, .int .i64 0, .slice none 0 0], .int .i64 200]) (by simp [results, Try.results36, go_sem, xz0, xz1, xz2]) rfl ⟨_, rfl, Row.none_, belG3 BB10.out (by omega) _ _ _⟩
      · have HOF := HO.out
        have tg : (cg == g) = false := by simpa using hg1
        have tg2 : decide (cg = g) = false := by simpa using hg1
        have tg3 : (cg != g) = true := by simpa using hg1
        unfold takeC at HOF
        rw [if_pos HQ.out, if_neg (by unfold fitB; simp; intro _ h; exact absurd h hg1)] at HOF
        subst HOF
        go_wp2_with fail
        exact bodyPost_ret (v := .tuple #[.agg #[.int .i64 0, .int .i64 0, .slice none 0 0], .int .i64 200]) (by simp [results, Try.results36, go_sem, xz0, xz1, xz2]) rfl ⟨_, rfl, Row.none_, belG3 BB10.out (by omega) _ _ _⟩
end Go.Proofs.Ytdanfeldbdooeaa
