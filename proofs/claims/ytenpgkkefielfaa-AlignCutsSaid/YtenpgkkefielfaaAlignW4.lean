/-
  WALKS of layer 18: the reference's Right.
-/
import Derived.Test.YtenpgkkefielfaaAlignW3
namespace Go.Proofs.Ytenpgkkefielfaa
open Go.RowKit

def cntG (a : Aln) (k : Nat) : Nat := (a.got.take k).count true
theorem cntG_succ {a : Aln} {k : Nat} {g : Bool} (h : a.got[k]? = some g) : cntG a (k + 1) = cntG a k + (if g then 1 else 0) := by
  unfold cntG
  rw [List.take_add_one, h, List.count_append]
  cases g <;> simp
theorem cntG_le (a : Aln) (k : Nat) : cntG a k ≤ k := by
  unfold cntG
  exact Nat.le_trans List.count_le_length (by rw [List.length_take]; exact Nat.min_le_left _ _)
def tailA (a : Aln) : Bool := (decide (a.n = 0) && decide (cntG a a.got.length = 0)) || (decide (0 < a.n) && (decide (0 < cntG a a.got.length) && decide (cntG a a.got.length < a.got.length)))
theorem contains_t (l : List Bool) : l.contains true = decide (0 < l.count true) := by
  rw [Bool.eq_iff_iff, decide_eq_true_eq, List.contains_iff_mem, List.count_pos_iff]
theorem contains_f (l : List Bool) : l.contains false = decide (l.count true < l.length) := by
  rw [Bool.eq_iff_iff, decide_eq_true_eq, List.contains_iff_mem]
  induction l with
  | nil => simp
  | cons a l ih =>
    cases a with
    | false =>
      have := List.count_le_length (a := true) (l := l)
      simp
      omega
    | true => simp [ih]
theorem right_ref (a : Aln) (h1 : 1 ≤ a.got.length) (h2 : a.got.length ≤ 8) (h3 : a.held.length = a.got.length) (h4 : 0 ≤ a.n) (h5 : a.n ≤ 1073741824) : rightA a = ((List.range a.got.length).all (hAt a) && tailA a) := by
  unfold rightA tailA cntG
  rw [decide_eq_true h1, decide_eq_true h2, decide_eq_true h3, decide_eq_true h4, decide_eq_true h5, h3, List.take_length, contains_t, contains_f]
  simp only [Bool.true_and]
  rw [Bool.and_comm ((List.range a.got.length).all (hAt a))]
  generalize (List.range a.got.length).all (hAt a) = q
  generalize a.got.count true = c
  by_cases hn : a.n = 0
  · rw [hn]
    by_cases hc : c = 0
    · subst hc; simp; intro; omega
    · have : 0 < c := by omega
      simp [hc, this]
  · have hp : 0 < a.n := by omega
    by_cases hc : 0 < c
    · simp [hn, hp, hc]
    · simp [hn, hp, hc]
def RrRel (a : Aln) (w0 : World) (n i : Value) (wr : World) : Prop := ∃ k : Nat, k ≤ a.got.length ∧ i = .int .i64 k ∧ n = .int .i64 (cntG a k) ∧ (List.range k).all (hAt a) = true ∧ Below w0.heap.size w0 wr
def RiRel (xl : List It) (w0 : World) (i : Value) (wr : World) : Prop := ∃ j : Nat, j ≤ xl.length ∧ i = .int .i64 j ∧ (List.range j).all (iAt xl) = true ∧ Below w0.heap.size w0 wr
set_option maxRecDepth 100000 in
set_option maxHeartbeats 8000000 in
theorem raright_any (a : Aln) (v : Value) (w : World) (hv : AlAt w v a) (b : Bool) (hb : rightA a = b) :
    Calls Try.prog 27 #[v] w fun e w' => e = .returned (.bool b) ∧ Below w.heap.size w w' := by
  obtain ⟨Ag, cg, Ah, ch, rfl, hg, hh, hat, hn, hlg, hlh⟩ := al_form hv
  have HG := Lib.hid hg
  have HH := Lib.hid hh
  have HAT := Lib.hid hat
  have HB := Lib.hid hb
  unfold maxLen at hlg hlh
  unfold wfL at hn
  have HRF := Lib.hid (right_ref a)
  clear hv hg hh hat hb
  obtain ⟨an, got, held⟩ := a
  simp only at hlg hlh hn HRF ⊢
  obtain ⟨lg, hlg'⟩ : ∃ n, got.length = n := ⟨_, rfl⟩
  obtain ⟨lh, hlh'⟩ : ∃ n, held.length = n := ⟨_, rfl⟩
  have HLG := Lib.hid hlg'
  have HLH := Lib.hid hlh'
  rw [hlg'] at hlg ⊢
  rw [hlh'] at hlh ⊢
  clear hlg' hlh'
  by_cases h0 : lg < 1
  · have t0 : decide ((lg : Int) < 1) = true := by simp; omega
    obtain rfl : b = false := by rw [← HB.out]; unfold rightA; simp only [HLG.out, HLH.out]; simp; omega
    go_enter Try.func27, Try.ntmps27
    go_wp2_with fail
    go_ret
    exact ⟨rfl, bel_alloc (Below.refl _ _) _⟩
  by_cases h1 : 8 < lg
  · have t0 : decide ((lg : Int) < 1) = false := by simp; omega
    have t1 : decide (8 < (lg : Int)) = true := by simp; omega
    obtain rfl : b = false := by rw [← HB.out]; unfold rightA; simp only [HLG.out, HLH.out]; simp; omega
    go_enter Try.func27, Try.ntmps27
    go_wp2_with fail
    go_ret
    exact ⟨rfl, bel_alloc (Below.refl _ _) _⟩
  by_cases h2 : lh ≠ lg
  · have t0 : decide ((lg : Int) < 1) = false := by simp; omega
    have t1 : decide (8 < (lg : Int)) = false := by simp; omega
    have t2 : ((lh : Int) != (lg : Int)) = true := by simp; omega
    obtain rfl : b = false := by rw [← HB.out]; unfold rightA; simp only [HLG.out, HLH.out]; simp; omega
    go_enter Try.func27, Try.ntmps27
    go_wp2_with fail
    go_ret
    exact ⟨rfl, bel_alloc (Below.refl _ _) _⟩
  have h2q : lg = lh := by omega
  subst h2q
  by_cases h3 : an < 0
  · have t0 : decide ((lg : Int) < 1) = false := by simp; omega
    have t1 : decide (8 < (lg : Int)) = false := by simp; omega
    have t3 : decide (an < 0) = true := by simp; omega
    obtain rfl : b = false := by rw [← HB.out]; unfold rightA; simp only [HLG.out, HLH.out]; simp; omega
    go_enter Try.func27, Try.ntmps27
    go_wp2_with fail
    go_ret
    exact ⟨rfl, bel_alloc (Below.refl _ _) _⟩
  by_cases h4 : 1073741824 < an
  · have t0 : decide ((lg : Int) < 1) = false := by simp; omega
    have t1 : decide (8 < (lg : Int)) = false := by simp; omega
    have t3 : decide (an < 0) = false := by simp; omega
    have t4 : decide (1073741824 < an) = true := by simp; omega
    obtain rfl : b = false := by rw [← HB.out]; unfold rightA; simp only [HLG.out, HLH.out]; simp; omega
    go_enter Try.func27, Try.ntmps27
    go_wp2_with fail
    go_ret
    exact ⟨rfl, bel_alloc (Below.refl _ _) _⟩
  have t0 : decide ((lg : Int) < 1) = false := by simp; omega
  have t1 : decide (8 < (lg : Int)) = false := by simp; omega
  have t3 : decide (an < 0) = false := by simp; omega
  have t4 : decide (1073741824 < an) = false := by simp; omega
  have HRG := Lib.hid (show ∀ W, Below w.heap.size w W → Row bCs 1 W (.slice Ag lg cg) got by intro W h; have := HG.out.below h; simpa [HLG.out] using this)
  have HRH := Lib.hid (show ∀ W, Below w.heap.size w W → Row Hl.cs 1 W (.slice Ah lg ch) held by intro W h; have := HH.out.below h; simpa [HLH.out] using this)
  have HRB := Lib.hid (show b = ((List.range lg).all (hAt ⟨an, got, held⟩) && tailA ⟨an, got, held⟩) by rw [← HB.out, HRF.out (by rw [HLG.out]; omega) (by rw [HLG.out]; omega) (by rw [HLG.out, HLH.out]) (by omega) (by omega), HLG.out])
  go_enter Try.func27, Try.ntmps27
  go_wp2_with fail
  obtain ⟨W1, hW2⟩ : ∃ X, X = (w).alloc (.cells #[.int .i64 an, .slice Ag lg cg, .slice Ah lg ch] 26) := ⟨_, rfl⟩
  rw [← hW2]
  have hb3 : Below w.heap.size w W1 := by rw [hW2]; exact bel_alloc (Below.refl _ _) _
  have Ns := Lib.hid (show W1.heap[w.heap.size]? = some (.cells #[.int .i64 an, .slice Ag lg cg, .slice Ah lg ch] 26 (0, 0)) by rw [hW2]; exact heap_at (w) _ (w.heap.size) (by simp))
  clear hW2
  have BB4 := Lib.hid hb3
  clear hb3
  have Bls := Ns
  clear Ns
  go_loopw [3, 40] (fun n i wr => RrRel ⟨an, got, held⟩ W1 n i wr) (fun _ i _ => lg - (intOf i).toNat)
  case atStart => exact ⟨0, Nat.zero_le _, rfl, rfl, rfl, Below.refl _ _⟩
  case round =>
    obtain ⟨k, hk, rfl, rfl, hall, hbel⟩ := hrel
    rw [show (⟨an, got, held⟩ : Aln).got.length = lg from HLG.out] at hk
    have HL := Lib.hid hall
    clear hall
    have hrelB := Lib.hid hbel
    have Z := Lib.hid (heap_below Bls.out hbel)
    clear Bls
    have Bls := Z
    clear Z
    have BB5 := Lib.hid (bThen BB4.out hbel)
    clear hbel
    have hcnk := cntG_le ⟨an, got, held⟩ k
    obtain ⟨cn, hcn⟩ : ∃ cn, cntG ⟨an, got, held⟩ k = cn := ⟨_, rfl⟩
    rw [hcn] at hcnk ⊢
    have HCN := Lib.hid hcn
    clear hcn
    by_cases hlt : k < lg
    · obtain ⟨x, hi⟩ : ∃ x, held[k]? = some x := ⟨_, List.getElem?_eq_getElem (by rw [HLH.out]; exact hlt)⟩
      obtain ⟨g, hgi⟩ : ∃ x, got[k]? = some x := ⟨_, List.getElem?_eq_getElem (by rw [HLG.out]; exact hlt)⟩
      obtain ⟨b1, o1, d1, e1, -, hb1, hX1⟩ := (HRH.out _ (Below.refl _ _)).at_ hi
      injection e1 with e1 e1b e1c
      subst e1
      clear e1b e1c
      obtain ⟨b2, o2, d2, e2, -, hb2, hX2⟩ := (HRG.out _ (Below.refl _ _)).at_ hgi
      injection e2 with e2 e2b e2c
      subst e2
      clear e2b e2c
      have p0 := (BB5.out.cell (p := ⟨b1, o1 + k * 1 + 0, none⟩) hb1).trans (hX1 0 _ rfl)
      have p1 := (BB5.out.cell (p := ⟨b2, o2 + k * 1 + 0, none⟩) hb2).trans (hX2 0 _ rfl)
      have HCS := Lib.hid (cntG_succ (a := ⟨an, got, held⟩) hgi)
      have RX := Lib.hid ((HAT.out x (List.mem_of_getElem? hi)).below BB5.out)
      have HHX : hAt ⟨an, got, held⟩ k = (decide (x.l.length ≤ 16) && ((decide (x.l.length = 0) || g) && allI x.l)) := by unfold hAt; rw [List.getElem!_eq_getElem?_getD, List.getElem!_eq_getElem?_getD, hi, hgi]; rfl
      obtain ⟨⟨Ax, cx, hxe, -, -⟩, -, hxm⟩ := RX.out
      clear hX1 hX2 hi hgi
      obtain ⟨xr, xl⟩ := x
      simp only [Nat.add_zero, Nat.mul_one] at p0 p1 hxe hxm HHX
      subst hxe
      unfold maxLen at hxm
      have HHX := Lib.hid HHX
      have zb1 := Nat.lt_of_lt_of_le hb1 BB5.out.size
      have zb2 := Nat.lt_of_lt_of_le hb2 BB5.out.size
      have zs := blk_lt Bls.out
      have xs0 := cellsAt Bls.out 0
      have xs1 := cellsAt Bls.out 1
      have xs2 := cellsAt Bls.out 2
      have fs := frozAt Bls.out
      simp at xs0 xs1 xs2
      have hki : (0 : Int) ≤ (k : Int) := by omega
      have hki2 : (k : Int) < (lg : Int) := by omega
      have hcni : (0 : Int) ≤ (cn : Int) := by omega
      have hcni2 : (cn : Int) ≤ 8 := by omega
      obtain ⟨z0, hz0⟩ : ∃ z, decide (xl.length = 0) = z := ⟨_, rfl⟩
      have H0 := Lib.hid hz0
      have t6 : decide (0 < (xl.length : Int)) = !z0 := by rw [← hz0, ← decide_not]; exact decide_eq_decide.2 (by omega)
      have t7 : decide (0 < xl.length) = !z0 := by rw [← hz0, ← decide_not]; exact decide_eq_decide.2 (by omega)
      obtain ⟨z1, hz1⟩ : ∃ z, decide (16 < xl.length) = z := ⟨_, rfl⟩
      have t5 : decide (16 < (xl.length : Int)) = z1 := by rw [← hz1]; exact decide_eq_decide.2 (by omega)
      have H16 := Lib.hid (show decide (xl.length ≤ 16) = !z1 by rw [← hz1, ← decide_not]; exact decide_eq_decide.2 (by omega))
      have H01 := Lib.hid (show z0 = true → z1 = false by intro h; rw [← hz1]; rw [h] at hz0; have := of_decide_eq_true hz0; exact decide_eq_false (by omega))
      have h17 : z1 = false → xl.length ≤ 16 := by intro h; rw [h] at hz1; have := of_decide_eq_false hz1; omega
      have H17 := Lib.hid h17
      clear hz0 hz1 h17
      cases g with
      | false =>
        cases z0 with
        | false =>
          simp only [Bool.not_false] at t6 t7
          obtain rfl : b = false := by rw [HRB.out, all_range_not (hAt ⟨an, got, held⟩) hlt (by rw [HHX.out, H0.out]; simp), Bool.false_and]
          go_wp2_with fail
          go_ret
          exact ⟨rfl, BB5.out⟩
        | true =>
          obtain rfl := H01.out rfl
          simp only [Bool.not_true] at t6 t7
          have h18 := H17.out rfl
          go_wp2_with fail
          go_loopw [74] (fun i wx => RiRel xl wr i wx) (fun i _ => xl.length - (intOf i).toNat)
          case atStart => exact ⟨0, Nat.zero_le _, rfl, rfl, Below.refl _ _⟩
          case round =>
            obtain ⟨j, hj, rfl, hallj, hbelj⟩ := hrel
            have HLJ := Lib.hid hallj
            have HBJ := Lib.hid hbelj
            clear hallj hbelj
            by_cases hltj : j < xl.length
            · obtain ⟨y, hy⟩ : ∃ y, xl[j]? = some y := ⟨_, List.getElem?_eq_getElem hltj⟩
              obtain ⟨b3, o3, d3, e3, -, hb3, hX3⟩ := RX.out.1.at_ hy
              injection e3 with e3 e3b e3c
              subst e3
              clear e3b e3c
              have y0 := (HBJ.out.cell (p := ⟨b3, o3 + j * 11 + 0, none⟩) hb3).trans (hX3 0 _ rfl)
              have y1 := (HBJ.out.cell (p := ⟨b3, o3 + j * 11 + 1, none⟩) hb3).trans (hX3 1 _ rfl)
              have y2 := (HBJ.out.cell (p := ⟨b3, o3 + j * 11 + 2, none⟩) hb3).trans (hX3 2 _ rfl)
              have y3 := (HBJ.out.cell (p := ⟨b3, o3 + j * 11 + 3, none⟩) hb3).trans (hX3 3 _ rfl)
              have y4 := (HBJ.out.cell (p := ⟨b3, o3 + j * 11 + 4, none⟩) hb3).trans (hX3 4 _ rfl)
              have y5 := (HBJ.out.cell (p := ⟨b3, o3 + j * 11 + 5, none⟩) hb3).trans (hX3 5 _ rfl)
              have y6 := (HBJ.out.cell (p := ⟨b3, o3 + j * 11 + 6, none⟩) hb3).trans (hX3 6 _ rfl)
              have y7 := (HBJ.out.cell (p := ⟨b3, o3 + j * 11 + 7, none⟩) hb3).trans (hX3 7 _ rfl)
              have y8 := (HBJ.out.cell (p := ⟨b3, o3 + j * 11 + 8, none⟩) hb3).trans (hX3 8 _ rfl)
              have y9 := (HBJ.out.cell (p := ⟨b3, o3 + j * 11 + 9, none⟩) hb3).trans (hX3 9 _ rfl)
              have y10 := (HBJ.out.cell (p := ⟨b3, o3 + j * 11 + 10, none⟩) hb3).trans (hX3 10 _ rfl)
              have HYJ : iAt xl j = rightI y := by unfold iAt; rw [List.getElem!_eq_getElem?_getD, hy]; rfl
              have HYJ := Lib.hid HYJ
              clear hX3 hy
              obtain ⟨i0, i1, i2, i3, i4, i5, i6, i7, i8, i9, i10⟩ := y
              simp only [Nat.add_zero] at y0 y1 y2 y3 y4 y5 y6 y7 y8 y9 y10
              have zb3 := Nat.lt_of_lt_of_le hb3 HBJ.out.size
              obtain ⟨qr, hqr⟩ : ∃ q, rightI ⟨i0, i1, i2, i3, i4, i5, i6, i7, i8, i9, i10⟩ = q := ⟨_, rfl⟩
              have HPR := Lib.hid (fun W => rright_any ⟨i0, i1, i2, i3, i4, i5, i6, i7, i8, i9, i10⟩ W qr hqr)
              unfold itV at HPR
              rw [hqr] at HYJ
              clear hqr
              go_wp2_with fail
              refine (HPR.out _).mono ?_
              rintro e wy ⟨rfl, hby⟩
              have HBJ2 := Lib.hid (belA HBJ.out hby)
              clear hby HBJ y0 y1 y2 y3 y4 y5 y6 y7 y8 y9 y10
              cases qr with
              | true =>
                go_wp2_with fail
                go_roundw
                case rel => exact ⟨j + 1, by omega, by go_num, by rw [all_range_succ, HLJ.out, HYJ.out]; rfl, HBJ2.out⟩
                case measure => simp [intOf]; omega
              | false =>
                obtain rfl : b = false := by rw [HRB.out, all_range_not (hAt ⟨an, got, held⟩) hlt (by rw [HHX.out, show allI xl = false from all_range_not (iAt xl) hltj HYJ.out, Bool.and_false, Bool.and_false]), Bool.false_and]
                go_wp2_with fail
                go_ret
                exact ⟨rfl, bThen BB5.out HBJ2.out⟩
            · have hjl : j = xl.length := by omega
              have HLJ2 : allI xl = true := by unfold allI; rw [← hjl]; exact HLJ.out
              have HLJ2 := Lib.hid HLJ2
              clear HLJ
              have hrel3 := bThen hrelB.out HBJ.out
              have tj : decide ((j : Int) < (xl.length : Int)) = false := by simp; omega
              go_wp2_with fail
              go_roundw
              case rel => exact ⟨k + 1, by rw [show (⟨an, got, held⟩ : Aln).got.length = lg from HLG.out]; omega, by go_num, by rw [HCS.out, HCN.out]; simp, by rw [all_range_succ, HL.out, HHX.out, HLJ2.out, H0.out, H16.out]; simp, hrel3⟩
              case measure => simp [intOf]; omega
      | true =>
        cases z1 with
        | true =>
          obtain rfl : b = false := by rw [HRB.out, all_range_not (hAt ⟨an, got, held⟩) hlt (by rw [HHX.out, H16.out]; rfl), Bool.false_and]
          go_wp2_with fail
          go_ret
          exact ⟨rfl, BB5.out⟩
        | false =>
          have h18 := H17.out rfl
          go_wp2_with fail
          go_loopw [74] (fun i wx => RiRel xl wr i wx) (fun i _ => xl.length - (intOf i).toNat)
          case atStart => exact ⟨0, Nat.zero_le _, rfl, rfl, Below.refl _ _⟩
          case round =>
            obtain ⟨j, hj, rfl, hallj, hbelj⟩ := hrel
            have HLJ := Lib.hid hallj
            have HBJ := Lib.hid hbelj
            clear hallj hbelj
            by_cases hltj : j < xl.length
            · obtain ⟨y, hy⟩ : ∃ y, xl[j]? = some y := ⟨_, List.getElem?_eq_getElem hltj⟩
              obtain ⟨b3, o3, d3, e3, -, hb3, hX3⟩ := RX.out.1.at_ hy
              injection e3 with e3 e3b e3c
              subst e3
              clear e3b e3c
              have y0 := (HBJ.out.cell (p := ⟨b3, o3 + j * 11 + 0, none⟩) hb3).trans (hX3 0 _ rfl)
              have y1 := (HBJ.out.cell (p := ⟨b3, o3 + j * 11 + 1, none⟩) hb3).trans (hX3 1 _ rfl)
              have y2 := (HBJ.out.cell (p := ⟨b3, o3 + j * 11 + 2, none⟩) hb3).trans (hX3 2 _ rfl)
              have y3 := (HBJ.out.cell (p := ⟨b3, o3 + j * 11 + 3, none⟩) hb3).trans (hX3 3 _ rfl)
              have y4 := (HBJ.out.cell (p := ⟨b3, o3 + j * 11 + 4, none⟩) hb3).trans (hX3 4 _ rfl)
              have y5 := (HBJ.out.cell (p := ⟨b3, o3 + j * 11 + 5, none⟩) hb3).trans (hX3 5 _ rfl)
              have y6 := (HBJ.out.cell (p := ⟨b3, o3 + j * 11 + 6, none⟩) hb3).trans (hX3 6 _ rfl)
              have y7 := (HBJ.out.cell (p := ⟨b3, o3 + j * 11 + 7, none⟩) hb3).trans (hX3 7 _ rfl)
              have y8 := (HBJ.out.cell (p := ⟨b3, o3 + j * 11 + 8, none⟩) hb3).trans (hX3 8 _ rfl)
              have y9 := (HBJ.out.cell (p := ⟨b3, o3 + j * 11 + 9, none⟩) hb3).trans (hX3 9 _ rfl)
              have y10 := (HBJ.out.cell (p := ⟨b3, o3 + j * 11 + 10, none⟩) hb3).trans (hX3 10 _ rfl)
              have HYJ : iAt xl j = rightI y := by unfold iAt; rw [List.getElem!_eq_getElem?_getD, hy]; rfl
              have HYJ := Lib.hid HYJ
              clear hX3 hy
              obtain ⟨i0, i1, i2, i3, i4, i5, i6, i7, i8, i9, i10⟩ := y
              simp only [Nat.add_zero] at y0 y1 y2 y3 y4 y5 y6 y7 y8 y9 y10
              have zb3 := Nat.lt_of_lt_of_le hb3 HBJ.out.size
              obtain ⟨qr, hqr⟩ : ∃ q, rightI ⟨i0, i1, i2, i3, i4, i5, i6, i7, i8, i9, i10⟩ = q := ⟨_, rfl⟩
              have HPR := Lib.hid (fun W => rright_any ⟨i0, i1, i2, i3, i4, i5, i6, i7, i8, i9, i10⟩ W qr hqr)
              unfold itV at HPR
              rw [hqr] at HYJ
              clear hqr
              go_wp2_with fail
              refine (HPR.out _).mono ?_
              rintro e wy ⟨rfl, hby⟩
              have HBJ2 := Lib.hid (belA HBJ.out hby)
              clear hby HBJ y0 y1 y2 y3 y4 y5 y6 y7 y8 y9 y10
              cases qr with
              | true =>
                go_wp2_with fail
                go_roundw
                case rel => exact ⟨j + 1, by omega, by go_num, by rw [all_range_succ, HLJ.out, HYJ.out]; rfl, HBJ2.out⟩
                case measure => simp [intOf]; omega
              | false =>
                obtain rfl : b = false := by rw [HRB.out, all_range_not (hAt ⟨an, got, held⟩) hlt (by rw [HHX.out, show allI xl = false from all_range_not (iAt xl) hltj HYJ.out, Bool.and_false, Bool.and_false]), Bool.false_and]
                go_wp2_with fail
                go_ret
                exact ⟨rfl, bThen BB5.out HBJ2.out⟩
            · have hjl : j = xl.length := by omega
              have HLJ2 : allI xl = true := by unfold allI; rw [← hjl]; exact HLJ.out
              have HLJ2 := Lib.hid HLJ2
              clear HLJ
              have hrel3 := bThen hrelB.out HBJ.out
              have tj : decide ((j : Int) < (xl.length : Int)) = false := by simp; omega
              go_wp2_with fail
              go_roundw
              case rel => exact ⟨k + 1, by rw [show (⟨an, got, held⟩ : Aln).got.length = lg from HLG.out]; omega, by go_num, by rw [HCS.out, HCN.out]; simp, by rw [all_range_succ, HL.out, HHX.out, HLJ2.out, H0.out, H16.out]; simp, hrel3⟩
              case measure => simp [intOf]; omega
    · have hkl : lg = k := by omega
      subst hkl
      have zs := blk_lt Bls.out
      have xs0 := cellsAt Bls.out 0
      have xs1 := cellsAt Bls.out 1
      have xs2 := cellsAt Bls.out 2
      have fs := frozAt Bls.out
      simp at xs0 xs1 xs2
      have HTL := Lib.hid (show b = tailA ⟨an, got, held⟩ by rw [HRB.out, HL.out, Bool.true_and])
      have tk : decide ((lg : Int) < (lg : Int)) = false := by simp
      by_cases ha : an = 0
      · have u0 : (an == 0) = true := by simp; omega
        have u2 : decide (0 < an) = false := by simp; omega
        have HA := Lib.hid ha
        clear ha
        by_cases hc : cn = 0
        · have u1 : ((cn : Int) == 0) = true := by simp; omega
          obtain rfl : b = true := by rw [HTL.out]; unfold tailA; simp only [HLG.out, HCN.out]; simp [HA.out, hc]
          have HC := Lib.hid hc
          clear hc
          go_wp2_with fail
          go_ret
          exact ⟨rfl, BB5.out⟩
        · have u1 : ((cn : Int) == 0) = false := by simp; omega
          obtain rfl : b = false := by rw [HTL.out]; unfold tailA; simp only [HLG.out, HCN.out]; simp [HA.out, hc]
          go_wp2_with fail
          go_ret
          exact ⟨rfl, BB5.out⟩
      · have u0 : (an == 0) = false := by simp; omega
        have u2 : decide (0 < an) = true := by simp; omega
        have hap : 0 < an := by omega
        by_cases hc : 0 < cn
        · have u3 : decide (0 < (cn : Int)) = true := by simp; omega
          have u3n : decide (0 < cn) = true := by simp; omega
          by_cases hcl : cn < lg
          · have u4 : decide ((cn : Int) < (lg : Int)) = true := by simp; omega
            obtain rfl : b = true := by rw [HTL.out]; unfold tailA; simp only [HLG.out, HCN.out]; simp [ha, hap, hc, hcl]
            go_wp2_with fail
            go_ret
            exact ⟨rfl, BB5.out⟩
          · have u4 : decide ((cn : Int) < (lg : Int)) = false := by simp; omega
            obtain rfl : b = false := by rw [HTL.out]; unfold tailA; simp only [HLG.out, HCN.out]; simp [ha, hap, hc, hcl]
            go_wp2_with fail
            go_ret
            exact ⟨rfl, BB5.out⟩
        · have u3 : decide (0 < (cn : Int)) = false := by simp; omega
          have u3n : decide (0 < cn) = false := by simp; omega
          obtain rfl : b = false := by rw [HTL.out]; unfold tailA; simp only [HLG.out, HCN.out]; simp [ha, hap, hc]
          go_wp2_with fail
          go_ret
          exact ⟨rfl, BB5.out⟩
end Go.Proofs.Ytenpgkkefielfaa
