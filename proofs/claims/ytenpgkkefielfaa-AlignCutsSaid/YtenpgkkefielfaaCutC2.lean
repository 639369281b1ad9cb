/-
  WALKS of the law AlignCuts: the closure that offers.
-/
import Derived.Test.YtenpgkkefielfaaCutC1
import Derived.Deep.RegionLaw
import Derived.StillTailTactics
set_option linter.unusedVariables false
set_option linter.unusedSimpArgs false
namespace Go.Proofs.Ytenpgkkefielfaa
open Go.RowKit

def HsP (n : Nat) (hs : List Hl) (P : Nat → List It) : Prop := ∀ j, j < n → ∃ h, hs[j]? = some h ∧ h.l = P j
/-- What the closure tells. -/
def ClTo (F : CFix) (c : Nat) (pos : Nat → Nat) (k : Nat) (hs : List Hl) (w : World) (e : Ending) (w' : World) : Prop :=
  e = .returned (.tuple #[]) ∧ ∃ c' va' a' P' hs', c ≤ c' ∧ CMem F w' c' va' a' hs' ∧ CSt F.B F.n F.R F.E c' (updN pos k (pos k + 1)) a' P' ∧ HsP F.n hs' P' ∧ Kept F w hs w' hs'
def CFix.func (F : CFix) : Value := .func (.func 18) #[] #[.pointer (some ⟨F.bA, 0, none⟩), .pointer (some ⟨F.bOK, 0, none⟩), .pointer (some ⟨F.bP, 0, none⟩), .pointer (some ⟨F.bC, 0, none⟩), .pointer (some ⟨F.bW, 0, none⟩), .pointer (some ⟨F.bF, 0, none⟩)]
theorem CSt.congr {B n : Nat} {R : Nat → List It} {E : Nat → Nat → Nat} {c : Nat} {pos pos' : Nat → Nat} {a : Aln} {P : Nat → List It} (h : CSt B n R E c pos a P) (hp : ∀ j, j < n → pos' j = pos j) : CSt B n R E c pos' a P := by
  refine ⟨h.n1, h.n8, h.cB, h.B2, h.row, fun j hj => by rw [hp j hj]; exact h.lo j hj, fun j hj => by rw [hp j hj]; exact h.hi j hj, ?_, h.gl, h.hl, fun j hj => by rw [hp j hj]; exact h.got j hj, fun j hj => by rw [hp j hj]; exact h.held j hj, ?_, fun j hj => by rw [hp j hj]; exact h.pas j hj⟩
  · rw [h.num]
    have : (∃ j, j < n ∧ E j c < pos j) ↔ (∃ j, j < n ∧ E j c < pos' j) := ⟨fun ⟨j, h1, h2⟩ => ⟨j, h1, by rw [hp j h1]; exact h2⟩, fun ⟨j, h1, h2⟩ => ⟨j, h1, by rw [hp j h1] at h2; exact h2⟩⟩
    simp only [this]
  · obtain ⟨j, hj, hjp⟩ := h.wait
    exact ⟨j, hj, by rw [hp j hj]; exact hjp⟩
theorem wrap_small {c : Nat} (h : c ≤ 100) : wrap64 ((c : Int) + 1 - 1) = (c : Int) ∧ wrap64 (c : Int) = (c : Int) ∧ IntKind.i64.wrap (c : Int) = (c : Int) :=
  ⟨by unfold wrap64; omega, by unfold wrap64; omega, by rw [IntKind.wrap_i64]; omega⟩
/-- The closure, when so many barriers were whole. -/
def ClAt (F : CFix) (c : Nat) : Prop := ∀ (k : Nat) (x : It) (pos : Nat → Nat) (va : Value) (a : Aln) (P : Nat → List It) (hs : List Hl) (w : World), CMem F w c va a hs → CSt F.B F.n F.R F.E c pos a P → HsP F.n hs P → k < F.n → (F.R k)[pos k]? = some x →
    Calls Try.prog 18 #[.int .i64 (k : Int), itV x, .pointer (some ⟨F.bA, 0, none⟩), .pointer (some ⟨F.bOK, 0, none⟩), .pointer (some ⟨F.bP, 0, none⟩), .pointer (some ⟨F.bC, 0, none⟩), .pointer (some ⟨F.bW, 0, none⟩), .pointer (some ⟨F.bF, 0, none⟩)] w (ClTo F c pos k hs w)
/-- The loop over what has passed: the first rows are compared and emptied. -/
def ClRel1 (F : CFix) (c : Nat) (w : World) (va : Value) (a : Aln) (hs : List Hl) (late : List Lt) (vl : Value) (vi : Value) (wr : World) : Prop :=
  ∃ (i : Nat) (hs' : List Hl), vi = .int .i64 i ∧ i ≤ F.n ∧ CMem F wr (c + 1) va a hs' ∧ HsZ i hs hs' ∧ Kept F w hs wr hs' ∧ Row Lt.cs 12 wr vl late
/-- The loop over what waited: so many of it were offered again. -/
def ClRel2 (F : CFix) (c : Nat) (w : World) (hs : List Hl) (late : List Lt) (vl : Value) (vi : Value) (wr : World) : Prop :=
  ∃ (q c' : Nat) (pos : Nat → Nat) (va : Value) (a : Aln) (P : Nat → List It) (hs' : List Hl), vi = .int .i64 q ∧ q ≤ late.length ∧ c + 1 ≤ c' ∧ CMem F wr c' va a hs' ∧ CSt F.B F.n F.R F.E c' pos a P ∧ HsP F.n hs' P ∧ Kept F w hs wr hs' ∧
    (∀ j, j < F.n → pos j = F.E j c + 1 + cntL (late.take q) j) ∧ Row Lt.cs 12 wr vl late ∧ ∀ b, vl.ownBlock = some b → 0 < late.length → ∀ h ∈ hs', h.row.ownBlock ≠ some b
set_option maxRecDepth 100000 in
set_option maxHeartbeats 4000000 in
theorem cclos_step (F : CFix) (hF : F.Ok) (hvF : F.vF = F.func) (c : Nat) (ih : ∀ c', c < c' → ClAt F c') : ClAt F c := by
  intro k x pos va a P hs w hM hC hP hk hx
  have IH := Lib.hid ih
  have HF := Lib.hid hF
  have HVF := Lib.hid hvF
  have HM := Lib.hid hM
  have HC := Lib.hid hC
  have HP := Lib.hid hP
  have HX := Lib.hid hx
  have OF := Lib.hid (fun v w hv => offer_cst hC hk hx v w hv)
  have fz := hM.size
  have fA := hF.a.1
  have fC := hF.c.1
  have fG := hF.g.1
  have fO := hF.ok.1
  have fP := hF.p.1
  have fW := hF.w.1
  have fF := hF.f.1
  obtain ⟨x0, x1, x2, rfl, hA⟩ := hM.A
  have xa0 := cellsAt hA 0
  have xa1 := cellsAt hA 1
  have xa2 := cellsAt hA 2
  simp at xa0 xa1 xa2
  obtain ⟨y0, y1, y2, y3, y4, y5, y6, y7, y8, y9, y10⟩ := x
  clear ih hF hvF hM hC hP hx hA
  unfold itV
  go_enter Try.func18, Try.ntmps18
  go_upto_region 1 with fail
  obtain ⟨W1, hW1⟩ : ∃ X, X = w.alloc (.cells #[.int .i64 y0, .string y1, .int .i64 y2, .int .i64 y3, .int .i64 y4, .int .i64 y5, .int .i64 y6, .int .i64 y7, .string y8, .int .i64 y9, .int .i64 y10] 43) := ⟨_, rfl⟩
  rw [← hW1]
  have N9 := Lib.hid (show W1.heap[w.heap.size]? = some (.cells #[.int .i64 y0, .string y1, .int .i64 y2, .int .i64 y3, .int .i64 y4, .int .i64 y5, .int .i64 y6, .int .i64 y7, .string y8, .int .i64 y9, .int .i64 y10] 43 (0, 0)) by rw [hW1]; exact heap_at _ _ _ rfl)
  have B1 := Lib.hid (show Below w.heap.size w W1 by rw [hW1]; exact bel_alloc (Below.refl _ _) _)
  have M1 := Lib.hid (HM.out.below HF.out B1.out)
  have fz1 := M1.out.size
  clear hW1 xa0 xa1 xa2
  obtain ⟨z0, z1, z2, hz, hA⟩ := M1.out.A
  injection hz with hz
  injection hz with hz
  simp at hz
  obtain ⟨rfl, rfl, rfl⟩ := hz
  have xa0 := cellsAt hA 0
  have xa1 := cellsAt hA 1
  have xa2 := cellsAt hA 2
  have t0 := cellsAt N9.out 0
  have t1 := cellsAt N9.out 1
  have t2 := cellsAt N9.out 2
  have t3 := cellsAt N9.out 3
  have t4 := cellsAt N9.out 4
  have t5 := cellsAt N9.out 5
  have t6 := cellsAt N9.out 6
  have t7 := cellsAt N9.out 7
  have t8 := cellsAt N9.out 8
  have t9 := cellsAt N9.out 9
  have t10 := cellsAt N9.out 10
  simp at xa0 xa1 xa2 t0 t1 t2 t3 t4 t5 t6 t7 t8 t9 t10
  clear hA
  go_wp2_with fail
  refine (OF.out _ _ M1.out.al).mono ?_
  rintro e w2 ⟨⟨v', a', hal, hblk, hres⟩, hb2⟩
  have N92 := Lib.hid (heap_below N9.out hb2)
  have B2 := Lib.hid (bThen B1.out hb2)
  have M2 := Lib.hid (M1.out.below HF.out hb2)
  have HBK := Lib.hid hblk
  have HRS := Lib.hid hres
  obtain ⟨Ag, ng, cg, Ah, nh, ch, hv'⟩ : ∃ Ag ng cg Ah nh ch, v' = .agg #[.int .i64 a'.n, .slice Ag ng cg, .slice Ah nh ch] := by obtain ⟨p, q, h, -, ⟨⟨A1, c1, r1, -⟩, -⟩, ⟨A2, c2, r2, -⟩, -⟩ := hal; exact ⟨_, _, _, _, _, _, by rw [h, r1, r2]⟩
  subst hv'
  have HAL := Lib.hid hal
  clear hal hblk hres
  rcases HRS.out with ⟨rfl, hC2⟩ | ⟨rfl, hC2⟩ | ⟨vl, late, rfl, hcB, hC2, hPs, hlr, hln, hll, hlt, hle⟩
  · have HC2 := Lib.hid hC2
    clear hC2 HRS
    go_upto_region 4 with fail
    obtain ⟨W3, hW3⟩ : ∃ X, X = w2.alloc (.cells #[.int .i64 a'.n, .slice Ag ng cg, .slice Ah nh ch] 26) := ⟨_, rfl⟩
    rw [← hW3]
    have N10 := Lib.hid (show W3.heap[w2.heap.size]? = some (.cells #[.int .i64 a'.n, .slice Ag ng cg, .slice Ah nh ch] 26 (0, 0)) by rw [hW3]; exact heap_at _ _ _ rfl)
    have B3 := Lib.hid (show Below w2.heap.size w2 W3 by rw [hW3]; exact bel_alloc (Below.refl _ _) _)
    have M3 := Lib.hid (M2.out.below HF.out B3.out)
    have N93 := Lib.hid (heap_below N92.out B3.out)
    clear hW3 xa0 xa1 xa2 t0 t1 t2 t3 t4 t5 t6 t7 t8 t9 t10 N92
    obtain ⟨z0, z1, z2, -, hA⟩ := M3.out.A
    have HA3 := Lib.hid hA
    have xa0 := cellsAt hA 0
    have xa1 := cellsAt hA 1
    have xa2 := cellsAt hA 2
    have fa := frozAt hA
    have za := blk_lt hA
    have q0 := cellsAt N10.out 0
    have q1 := cellsAt N10.out 1
    have q2 := cellsAt N10.out 2
    simp at xa0 xa1 xa2 q0 q1 q2
    clear hA
    go_upto_region 5 with fail
    obtain ⟨W4, hW4⟩ : ∃ X, X = ((W3.setCell ⟨F.bA, 0, none⟩ (.int .i64 a'.n)).setCell ⟨F.bA, 1, none⟩ (.slice Ag ng cg)).setCell ⟨F.bA, 2, none⟩ (.slice Ah nh ch) := ⟨_, rfl⟩
    rw [← hW4]
    have hk4 : ∀ b, b ≠ F.bA → W4.heap[b]? = W3.heap[b]? := fun b hb => by rw [hW4]; exact (Below.heap_setCell _ ⟨F.bA, 2, none⟩ _ b hb).trans ((Below.heap_setCell _ ⟨F.bA, 1, none⟩ _ b hb).trans (Below.heap_setCell _ ⟨F.bA, 0, none⟩ _ b hb))
    have hs4 : W4.heap.size = W3.heap.size := by rw [hW4]; simp [World.setCell]
    have M4 := Lib.hid (M3.out.setA HF.out (HAL.out.below B3.out) (fun b hb => M1.out.off_new HF.out (HBK.out b hb)) hk4 hs4 (by rw [hW4]; exact set3 HA3.out _ _ _))
    have K4 := Lib.hid ((Kept.below (F := F) (hs := hs) (bThen B2.out B3.out)).trans (Kept.one (.inl rfl) hk4 hs4 (by rw [hW4]; exact ⟨rfl, rfl, rfl⟩)))
    have N94 := Lib.hid ((hk4 w.heap.size (by omega)).trans N93.out)
    clear hW4 hk4 hs4 xa0 xa1 xa2 fa za q0 q1 q2 HA3 N93 N10 HAL HBK B3 M3
    have hkl := M4.out.len
    obtain ⟨y, hy1, hy2⟩ := HP.out k hk
    have HY := Lib.hid hy1
    have HYL := Lib.hid hy2
    have hym := List.mem_of_getElem? hy1
    have hyl : y.l.length ≤ 14 := by
      rw [hy2, HC.out.pas k hk]
      unfold segP
      rw [List.length_take, List.length_drop, List.length_take]
      have := (HC.out.row k hk).len
      omega
    have hro := Row.of_own Hl.cs_len M4.out.own (by rw [hkl])
    obtain ⟨b1, o1, c1, hv1, -, -, hY⟩ := hro.at_ hy1
    injection hv1 with e1 e2 e3
    injection e1 with e1
    injection e1 with e1 e5 e6
    subst e1 e5
    have r0 := hY 0 _ rfl
    simp only [Nat.zero_add, Nat.mul_one, Nat.add_zero] at r0
    obtain ⟨Ay, cy, hyr⟩ := own_slice (M4.out.rows y hym)
    have OY := Lib.hid (M4.out.rows y hym)
    rw [hyr] at r0 OY
    obtain ⟨ny, hny⟩ : ∃ z, y.l.length = z := ⟨_, rfl⟩
    rw [hny] at r0 OY hyl
    have HNY := Lib.hid hny
    have HYR := Lib.hid hyr
    rcases M4.out.own.2 with ⟨h0, -⟩ | ⟨g', cap', cur, hv2, -, hcur, hccap, -, hcsz, -⟩
    · cases h0
    injection hv2 with f1 f2 f3
    injection f1 with f1
    injection f1 with f1
    subst f1
    have HCU := Lib.hid hcur
    have HCC := Lib.hid (show cur[k]? = some cur[k] from Array.getElem?_eq_getElem (by omega))
    have hgo : some F.gP ≠ (Value.slice Ay ny cy).ownBlock := fun e => by have := (OY.out.lt _ e.symm).1; omega
    have x0 := cellsAt N94.out 0
    have x1 := cellsAt N94.out 1
    have x2 := cellsAt N94.out 2
    have x3 := cellsAt N94.out 3
    have x4 := cellsAt N94.out 4
    have x5 := cellsAt N94.out 5
    have x6 := cellsAt N94.out 6
    have x7 := cellsAt N94.out 7
    have x8 := cellsAt N94.out 8
    have x9 := cellsAt N94.out 9
    have x10 := cellsAt N94.out 10
    have xp := cellsAt M4.out.P 0
    simp at x0 x1 x2 x3 x4 x5 x6 x7 x8 x9 x10 xp
    have hz4 := M4.out.size
    have hgp4 : F.gP < W4.heap.size := by omega
    have hbp4 : F.bP < W4.heap.size := by omega
    have hbo : some F.bP ≠ (Value.slice Ay ny cy).ownBlock := fun e => by have := (OY.out.lt _ e.symm).1; omega
    have MP4 := Lib.hid M4.out.P
    have zb := blk_lt N94.out
    have hkn : (k : Int) < (F.n : Int) := by omega
    obtain ⟨i0, hi0', hz0, hz1, hz2⟩ := info_parts info_it
    have HI := Lib.hid hi0'
    have HZ0 := Lib.hid hz0
    have HZ1 := Lib.hid hz1
    have HZ2 := Lib.hid hz2
    unfold itV at HZ0
    clear hY hro hy1 hy2 hym hyr hny e2 e3 e6 hcur f2 f3 hi0' hz0 hz1 hz2
    go_upto_region 6 with fail
    go_region_law (first | (refine step_own_at rfl _ _ 32 rfl F.bs 43 i0 _ 11 104 Try.underlying32 HI.out HZ0.out HZ1.out HZ2.out rfl (by decide) _ _ _ rfl (World.ownsRow.alloc OY.out _) _ 1 1 [.int .i64 y0, .string y1, .int .i64 y2, .int .i64 y3, .int .i64 y4, .int .i64 y5, .int .i64 y6, .int .i64 y7, .string y8, .int .i64 y9, .int .i64 y10] rfl rfl (fun j u h => rs_news W4 _ _ _ rfl j u h) (by intro u hu; simp at hu; rcases hu with rfl | rfl | rfl | rfl | rfl | rfl | rfl | rfl | rfl | rfl | rfl <;> rfl) (by unfold maxLen; omega) (by omega) (by simp; omega) ?_; intro v5 W5 hown5 hgrow5 hloc5; obtain ⟨A5, c5, rfl⟩ := own_slice hown5; have h5 := (hgrow5.block F.gP (show F.gP < (W4.alloc (.cells #[.int .i64 y0, .string y1, .int .i64 y2, .int .i64 y3, .int .i64 y4, .int .i64 y5, .int .i64 y6, .int .i64 y7, .string y8, .int .i64 y9, .int .i64 y10] 43)).heap.size by simp; omega) hgo).trans ((heap_alloc_old _ _ (show F.gP < W4.heap.size by omega)).trans HCU.out); have z5 := blk_lt h5; have q5 := (cellsAt h5 k).trans HCC.out; have f5 := frozAt h5; have h5p := (hgrow5.block F.bP (show F.bP < (W4.alloc (.cells #[.int .i64 y0, .string y1, .int .i64 y2, .int .i64 y3, .int .i64 y4, .int .i64 y5, .int .i64 y6, .int .i64 y7, .string y8, .int .i64 y9, .int .i64 y10] 43)).heap.size by simp; omega) hbo).trans ((heap_alloc_old _ _ (show F.bP < W4.heap.size by omega)).trans MP4.out); have p5 : W5.cell? ⟨F.bP, 0, none⟩ = some (.slice (some ⟨F.gP, 0, none⟩) F.n F.cP) := cellsAt h5p 0))
    all_goals
      have BA := Lib.hid (show Below W4.heap.size W4 (W4.alloc (.cells #[.int .i64 y0, .string y1, .int .i64 y2, .int .i64 y3, .int .i64 y4, .int .i64 y5, .int .i64 y6, .int .i64 y7, .string y8, .int .i64 y9, .int .i64 y10] 43)) from bel_alloc (Below.refl _ _) _)
      have hg5 : (W4.alloc (.cells #[.int .i64 y0, .string y1, .int .i64 y2, .int .i64 y3, .int .i64 y4, .int .i64 y5, .int .i64 y6, .int .i64 y7, .string y8, .int .i64 y9, .int .i64 y10] 43)).grownBy W5 y.row.ownBlock := by rw [HYR.out, HNY.out]; exact ⟨hgrow5.os, hgrow5.tape, hgrow5.output, hgrow5.size, hgrow5.block⟩
      have hl5 : (Value.slice A5 (ny + 1) c5).ownBlock = y.row.ownBlock ∨ (Value.slice A5 (ny + 1) c5).ownBlock = some (W4.alloc (.cells #[.int .i64 y0, .string y1, .int .i64 y2, .int .i64 y3, .int .i64 y4, .int .i64 y5, .int .i64 y6, .int .i64 y7, .string y8, .int .i64 y9, .int .i64 y10] 43)).heap.size := by rw [HYR.out, HNY.out]; exact hloc5
      have M5 := Lib.hid ((M4.out.below HF.out BA.out).put HF.out HY.out (x := ⟨y0, y1, y2, y3, y4, y5, y6, y7, y8, y9, y10⟩) (by rw [HNY.out]; exact hown5) hg5 hl5)
      have K5 := Lib.hid ((K4.out.trans (Kept.below BA.out)).trans (Kept.put (x := ⟨y0, y1, y2, y3, y4, y5, y6, y7, y8, y9, y10⟩) (M4.out.below HF.out BA.out) HF.out HY.out hg5 hl5))
      clear hg5 hl5 hown5 hgrow5 hloc5 h5 z5 q5 f5 h5p p5 x0 x1 x2 x3 x4 x5 x6 x7 x8 x9 x10 zb r0 xp
      go_wp2_with fail
      go_end0
      refine ⟨rfl, c, _, _, _, _, Nat.le_refl _, M5.out, HC2.out, fun j hj => ?_, K5.out⟩
      by_cases e : j = k
      · subst e
        exact ⟨_, List.getElem?_set_self (by rw [hkl]; exact hk), by rw [updN_same, ← HYL.out]⟩
      · obtain ⟨z, hz1, hz2⟩ := HP.out j hj
        exact ⟨z, by rw [List.getElem?_set_ne (fun e2 => e e2.symm)]; exact hz1, by rw [updN_other _ _ e]; exact hz2⟩
  · have HC2 := Lib.hid hC2
    clear hC2 HRS
    go_upto_region 4 with fail
    obtain ⟨W3, hW3⟩ : ∃ X, X = w2.alloc (.cells #[.int .i64 a'.n, .slice Ag ng cg, .slice Ah nh ch] 26) := ⟨_, rfl⟩
    rw [← hW3]
    have N10 := Lib.hid (show W3.heap[w2.heap.size]? = some (.cells #[.int .i64 a'.n, .slice Ag ng cg, .slice Ah nh ch] 26 (0, 0)) by rw [hW3]; exact heap_at _ _ _ rfl)
    have B3 := Lib.hid (show Below w2.heap.size w2 W3 by rw [hW3]; exact bel_alloc (Below.refl _ _) _)
    have M3 := Lib.hid (M2.out.below HF.out B3.out)
    have N93 := Lib.hid (heap_below N92.out B3.out)
    clear hW3 xa0 xa1 xa2 t0 t1 t2 t3 t4 t5 t6 t7 t8 t9 t10 N92
    obtain ⟨z0, z1, z2, -, hA⟩ := M3.out.A
    have HA3 := Lib.hid hA
    have xa0 := cellsAt hA 0
    have xa1 := cellsAt hA 1
    have xa2 := cellsAt hA 2
    have fa := frozAt hA
    have za := blk_lt hA
    have q0 := cellsAt N10.out 0
    have q1 := cellsAt N10.out 1
    have q2 := cellsAt N10.out 2
    simp at xa0 xa1 xa2 q0 q1 q2
    clear hA
    go_upto_region 5 with fail
    obtain ⟨W4, hW4⟩ : ∃ X, X = ((W3.setCell ⟨F.bA, 0, none⟩ (.int .i64 a'.n)).setCell ⟨F.bA, 1, none⟩ (.slice Ag ng cg)).setCell ⟨F.bA, 2, none⟩ (.slice Ah nh ch) := ⟨_, rfl⟩
    rw [← hW4]
    have hk4 : ∀ b, b ≠ F.bA → W4.heap[b]? = W3.heap[b]? := fun b hb => by rw [hW4]; exact (Below.heap_setCell _ ⟨F.bA, 2, none⟩ _ b hb).trans ((Below.heap_setCell _ ⟨F.bA, 1, none⟩ _ b hb).trans (Below.heap_setCell _ ⟨F.bA, 0, none⟩ _ b hb))
    have hs4 : W4.heap.size = W3.heap.size := by rw [hW4]; simp [World.setCell]
    have M4 := Lib.hid (M3.out.setA HF.out (HAL.out.below B3.out) (fun b hb => M1.out.off_new HF.out (HBK.out b hb)) hk4 hs4 (by rw [hW4]; exact set3 HA3.out _ _ _))
    have K4 := Lib.hid ((Kept.below (F := F) (hs := hs) (bThen B2.out B3.out)).trans (Kept.one (.inl rfl) hk4 hs4 (by rw [hW4]; exact ⟨rfl, rfl, rfl⟩)))
    have N94 := Lib.hid ((hk4 w.heap.size (by omega)).trans N93.out)
    clear hW4 hk4 hs4 xa0 xa1 xa2 fa za q0 q1 q2 HA3 N93 N10 HAL HBK B3 M3
    go_wp2_with fail
    go_end0
    exact ⟨rfl, c, _, _, _, _, Nat.le_refl _, M4.out, HC2.out, HP.out, K4.out⟩
  · have HC2 := Lib.hid hC2
    have HPS := Lib.hid hPs
    have HLR := Lib.hid hlr
    have HLN := Lib.hid hln
    have HLT := Lib.hid hlt
    have HLE := Lib.hid hle
    obtain ⟨Al, cl, rfl, -, -⟩ := hlr
    obtain ⟨ml, hml⟩ : ∃ z, late.length = z := ⟨_, rfl⟩
    have HML := Lib.hid hml
    rw [hml] at HLR HLN hll ⊢
    have hB2 := HC.out.B2
    have hn8 := HC.out.n8
    clear hC2 HRS hPs hln hlt hle hml
    go_upto_region 4 with fail
    obtain ⟨W3, hW3⟩ : ∃ X, X = w2.alloc (.cells #[.int .i64 a'.n, .slice Ag ng cg, .slice Ah nh ch] 26) := ⟨_, rfl⟩
    rw [← hW3]
    have N10 := Lib.hid (show W3.heap[w2.heap.size]? = some (.cells #[.int .i64 a'.n, .slice Ag ng cg, .slice Ah nh ch] 26 (0, 0)) by rw [hW3]; exact heap_at _ _ _ rfl)
    have B3 := Lib.hid (show Below w2.heap.size w2 W3 by rw [hW3]; exact bel_alloc (Below.refl _ _) _)
    have M3 := Lib.hid (M2.out.below HF.out B3.out)
    have N93 := Lib.hid (heap_below N92.out B3.out)
    clear hW3 xa0 xa1 xa2 t0 t1 t2 t3 t4 t5 t6 t7 t8 t9 t10 N92
    obtain ⟨z0, z1, z2, -, hA⟩ := M3.out.A
    have HA3 := Lib.hid hA
    have xa0 := cellsAt hA 0
    have xa1 := cellsAt hA 1
    have xa2 := cellsAt hA 2
    have fa := frozAt hA
    have za := blk_lt hA
    have q0 := cellsAt N10.out 0
    have q1 := cellsAt N10.out 1
    have q2 := cellsAt N10.out 2
    simp at xa0 xa1 xa2 q0 q1 q2
    clear hA
    go_upto_region 5 with fail
    obtain ⟨W4, hW4⟩ : ∃ X, X = ((W3.setCell ⟨F.bA, 0, none⟩ (.int .i64 a'.n)).setCell ⟨F.bA, 1, none⟩ (.slice Ag ng cg)).setCell ⟨F.bA, 2, none⟩ (.slice Ah nh ch) := ⟨_, rfl⟩
    rw [← hW4]
    have hk4 : ∀ b, b ≠ F.bA → W4.heap[b]? = W3.heap[b]? := fun b hb => by rw [hW4]; exact (Below.heap_setCell _ ⟨F.bA, 2, none⟩ _ b hb).trans ((Below.heap_setCell _ ⟨F.bA, 1, none⟩ _ b hb).trans (Below.heap_setCell _ ⟨F.bA, 0, none⟩ _ b hb))
    have hs4 : W4.heap.size = W3.heap.size := by rw [hW4]; simp [World.setCell]
    have M4 := Lib.hid (M3.out.setA HF.out (HAL.out.below B3.out) (fun b hb => M1.out.off_new HF.out (HBK.out b hb)) hk4 hs4 (by rw [hW4]; exact set3 HA3.out _ _ _))
    have K4 := Lib.hid ((Kept.below (F := F) (hs := hs) (bThen B2.out B3.out)).trans (Kept.one (.inl rfl) hk4 hs4 (by rw [hW4]; exact ⟨rfl, rfl, rfl⟩)))
    have N94 := Lib.hid ((hk4 w.heap.size (by omega)).trans N93.out)
    have L4 := Lib.hid ((HLR.out.below B3.out).keepIn (W' := W4) (fun b hb _ => hk4 b (by have := HLN.out b hb; omega)) (by omega))
    clear hW4 hk4 hs4 xa0 xa1 xa2 fa za q0 q1 q2 HA3 N93 N10 HAL HBK B3 M3
    have dn : ((c : Int) + 1 == 0) = false := beq_eq_false_iff_ne.2 (by omega)
    have hn1 : wrap64 ((c : Int) + 1) = (c : Int) + 1 := by unfold wrap64; omega
    have xc : W4.cell? ⟨F.bC, 0, none⟩ = some (.int .i64 (c : Int)) := cellsAt M4.out.C 0
    have fc := frozAt M4.out.C
    have zc := blk_lt M4.out.C
    go_upto_region 9 with fail
    obtain ⟨W5, hW5⟩ : ∃ X, X = W4.setCell ⟨F.bC, 0, none⟩ (.int .i64 ((c : Int) + 1)) := ⟨_, rfl⟩
    rw [← hW5]
    have hk5 : ∀ b, b ≠ F.bC → W5.heap[b]? = W4.heap[b]? := fun b hb => by rw [hW5]; exact Below.heap_setCell _ ⟨F.bC, 0, none⟩ _ b hb
    have hs5 : W5.heap.size = W4.heap.size := by rw [hW5]; simp [World.setCell]
    have M5 := Lib.hid (M4.out.setC (c' := c + 1) HF.out hk5 hs5 (by rw [hW5]; exact set1 M4.out.C _))
    have K5 := Lib.hid (K4.out.trans (Kept.one (.inr rfl) hk5 hs5 (by rw [hW5]; exact ⟨rfl, rfl, rfl⟩)))
    have L5 := Lib.hid (L4.out.keepIn (W' := W5) (fun b hb _ => hk5 b (by have := HLN.out b hb; omega)) (by omega))
    clear hW5 hk5 hs5 xc fc zc M4 K4 L4 dn hn1
    have xc : W5.cell? ⟨F.bC, 0, none⟩ = some (.int .i64 ((c : Int) + 1)) := cellsAt M5.out.C 0
    have xo : W5.cell? ⟨F.bOK, 0, none⟩ = some (.bool true) := cellsAt M5.out.OK 0
    have fo := frozAt M5.out.OK
    have zo := blk_lt M5.out.OK
    go_upto_region 10 with fail
    obtain ⟨W6, hW6⟩ : ∃ X, X = W5.setCell ⟨F.bOK, 0, none⟩ (.bool true) := ⟨_, rfl⟩
    rw [← hW6]
    have B6 := Lib.hid (show Below W5.heap.size W5 W6 by rw [hW6]; exact set_same M5.out.OK)
    have M6 := Lib.hid (M5.out.below HF.out B6.out)
    have K6 := Lib.hid (K5.out.trans (Kept.below B6.out))
    have L6 := Lib.hid (L5.out.below B6.out)
    clear hW6 xc xo fo zo M5 K5 L5 B6
    have xp := cellsAt M6.out.P 0
    simp at xp
    go_wp2_with fail
    clear xp
    go_loopw [54] (fun vi wr => ClRel1 F c w (.agg #[.int .i64 a'.n, .slice Ag ng cg, .slice Ah nh ch]) a' hs late (.slice Al ml cl) vi wr) (fun vi _ => F.n - (intOf vi).toNat)
    case atStart => exact ⟨0, hs, rfl, Nat.zero_le _, M6.out, HsZ.start hs, K6.out, L6.out⟩
    case round =>
      obtain ⟨i, hs', rfl, hin, hm, hzz, hkp, hl6⟩ := hrel
      have RM := Lib.hid hm
      have RZ := Lib.hid hzz
      have RK := Lib.hid hkp
      have RL := Lib.hid hl6
      clear hm hzz hkp hl6 M6 K6 L6
      have rz := RM.out.size
      by_cases hlt : i < F.n
      · obtain ⟨y, hy1, hy2⟩ := HP.out i hlt
        have hy3 := (RZ.out.2 i (Nat.le_refl _)).trans hy1
        have hym := List.mem_of_getElem? hy3
        have hyl : y.l = ((F.R i).take (F.E i c)).drop (sgo (F.E i) c) := hy2.trans (HPS.out i hlt)
        have hro := Row.of_own Hl.cs_len RM.out.own (by rw [RM.out.len])
        obtain ⟨b1, o1, c1, hv1, -, -, hY⟩ := hro.at_ hy3
        injection hv1 with e1 e2 e3
        injection e1 with e1
        injection e1 with e1 e5 e6
        subst e1 e5
        have r0 := hY 0 _ rfl
        simp only [Nat.zero_add, Nat.mul_one, Nat.add_zero] at r0
        obtain ⟨Ay, cy, hyr⟩ := own_slice (RM.out.rows y hym)
        have hrowy := Row.of_own It.cs_len (RM.out.rows y hym) rfl
        rw [hyr] at r0 hrowy
        rw [hyl] at r0 hrowy
        obtain ⟨bw, ow, cw, hvW, hsw, hWt⟩ := RM.out.want
        obtain ⟨bi, ci, q1, q2, q3⟩ := hWt i hlt
        obtain ⟨v, q4, q5, q6⟩ := q3 c (by omega)
        have HQ := Lib.hid q5
        have HRY := Lib.hid (show RowI wr _ _ from ⟨hrowy, q5.2⟩)
        obtain ⟨Av, cv, rfl, -, -⟩ := q5.1
        have xw : wr.cell? ⟨F.bW, 0, none⟩ = some F.vW := cellsAt RM.out.Wn 0
        rw [hvW] at xw
        obtain ⟨nv, hnv⟩ : ∃ z, (((F.R i).take (F.E i c)).drop (sgo (F.E i) c)).length = z := ⟨_, rfl⟩
        rw [hnv] at q4 r0
        rw [hnv] at HQ HRY
        obtain ⟨seg, hseg⟩ : ∃ z, ((F.R i).take (F.E i c)).drop (sgo (F.E i) c) = z := ⟨_, rfl⟩
        rw [hseg] at HRY
        rw [hseg] at HQ
        have xp := cellsAt RM.out.P 0
        have xo : wr.cell? ⟨F.bOK, 0, none⟩ = some (.bool true) := cellsAt RM.out.OK 0
        have xc : wr.cell? ⟨F.bC, 0, none⟩ = some (.int .i64 ((c : Int) + 1)) := cellsAt RM.out.C 0
        simp at xp
        rcases RM.out.own.2 with ⟨h0, -⟩ | ⟨g', cap', cur, hv2, -, hcur, hccap, -, hcsz, -⟩
        · cases h0
        injection hv2 with f1 f2 f3
        injection f1 with f1
        injection f1 with f1
        subst f1
        clear hY hro hy1 hy2 hy3 hym hyl hyr hrowy hvW hsw hWt q2 q3 q5 q6 hnv hseg e2 e3 e6 f2 f3 hcur
        have hcn : (c : Int) < (F.B : Int) := by omega
        have hcn2 : (c : Int) ≤ (F.B : Int) := by omega
        have hcn3 : c ≤ F.B := by omega
        have hcn4 : ¬ ((F.B : Int) < (c : Int)) := by omega
        have dq1 : decide ((c : Int) + 1 ≤ (F.B : Int) + 1) = true := decide_eq_true (by omega)
        have dq2 : decide ((c : Int) ≤ (F.B : Int)) = true := decide_eq_true (by omega)
        have dq3 : decide (c ≤ F.B) = true := decide_eq_true (by omega)
        have dq4 : decide (c + 1 ≤ F.B + 1) = true := decide_eq_true (by omega)
        have hcn5 : (c : Int) < (F.B : Int) + 1 := by omega
        have hcn6 : c < F.B + 1 := by omega
        have hin2 : (i : Int) < (F.n : Int) := by omega
        obtain ⟨hw1, hw2, hcc1⟩ := wrap_small (c := c) (by omega)
        go_upto_region 13 with fail
        go_still_tail 23, (by kernel_rfl)
        try refine wpStill_nil ?_
        change wpList _ _ _ _ _ wr.drew
        clear hw1 hw2 hcc1
        have BD := Lib.hid (show Below wr.heap.size wr wr.drew from Below.drew (Below.refl _ _))
        generalize wr.drew = wd at BD ⊢
        clear r0 q1 q4 xw xp xo xc
        go_wp2_with fail
        refine (likeI_any seg _ _ _ (HRY.out.below BD.out) (HQ.out.below BD.out)).mono ?_
        rintro e w7 ⟨rfl, m7, hw7⟩
        have B7 := Lib.hid (show Below wr.heap.size wr w7 by rw [hw7]; exact bDrewN BD.out)
        have M7 := Lib.hid (RM.out.below HF.out B7.out)
        have xo7 : w7.cell? ⟨F.bOK, 0, none⟩ = some (.bool true) := cellsAt M7.out.OK 0
        have fo7 := frozAt M7.out.OK
        have zo7 := blk_lt M7.out.OK
        clear hw7 BD HRY HQ
        go_upto_region 14 with fail
        obtain ⟨W8, hW8⟩ : ∃ X, X = w7.setCell ⟨F.bOK, 0, none⟩ (.bool true) := ⟨_, rfl⟩
        rw [← hW8]
        have B8 := Lib.hid (bThen B7.out (show Below w7.heap.size w7 W8 by rw [hW8]; exact set_same M7.out.OK))
        have M8 := Lib.hid (RM.out.below HF.out B8.out)
        have L8 := Lib.hid (RL.out.below B8.out)
        clear hW8 B7 M7 xo7 fo7 zo7
        have xp := cellsAt M8.out.P 0
        simp at xp
        rcases M8.out.own.2 with ⟨h0, -⟩ | ⟨g2, cap2, cur2, hv2, -, hcur2, hccap2, -, hcsz2, -⟩
        · cases h0
        injection hv2 with f1 f2 f3
        injection f1 with f1
        injection f1 with f1
        subst f1
        obtain ⟨u8, hu8⟩ : ∃ x, cur2[i]? = some x := ⟨_, Array.getElem?_eq_getElem (by omega)⟩
        have q8 := (cellsAt hcur2 i).trans hu8
        have f8 := frozAt hcur2
        have z8 := blk_lt hcur2
        clear f2 f3 hcur2 hu8
        go_wp2_with fail
        go_roundw
        case rel => exact ⟨i + 1, _, by go_num, by omega, M8.out.setNil HF.out hlt, RZ.out.step (by rw [RM.out.len]; exact hlt), (RK.out.trans (Kept.below B8.out)).trans Kept.setNil, L8.out.keepIn (fun b hb _ => Below.heap_setCell W8 ⟨F.gP, i, none⟩ _ b (by have := HLN.out b hb; show b ≠ F.gP; omega)) (by simp [World.setCell])⟩
        case measure => simp [intOf]; omega
      · have hin2 : i = F.n := by omega
        subst hin2
        have hnil : ∀ j, j < F.n → hs'[j]? = some hZ := RZ.out.1
        have HNIL := Lib.hid hnil
        clear hnil RZ
        go_wp2_with fail
        go_loopw [88] (fun vi wq => ClRel2 F c w hs late (.slice Al ml cl) vi wq) (fun vi _ => ml - (intOf vi).toNat)
        case atStart =>
          refine ⟨0, c + 1, fun j => F.E j c + 1, _, a', fun _ => [], hs', rfl, Nat.zero_le _, Nat.le_refl _, RM.out, HC2.out, fun j hj => ⟨hZ, HNIL.out j hj, rfl⟩, RK.out, fun j hj => by simp [cntL], RL.out, fun b _ _ h hh => ?_⟩
          obtain ⟨j, hj, hjh⟩ := List.getElem_of_mem hh
          rw [RM.out.len] at hj
          have hz := HNIL.out j hj
          rw [List.getElem?_eq_getElem (by rw [RM.out.len]; exact hj), hjh] at hz
          injection hz with hz
          rw [hz]
          simp [hZ, Value.ownBlock]
        case round =>
          obtain ⟨q, c', pos', va', a2, P', hs2, rfl, hq, hcc', hm, hcs, hps, hkp, hpq, hl2, hsep⟩ := hrel
          have SM := Lib.hid hm
          have SC := Lib.hid hcs
          have SP := Lib.hid hps
          have SK := Lib.hid hkp
          have SQ := Lib.hid hpq
          have SL := Lib.hid hl2
          have SS := Lib.hid hsep
          rw [HML.out] at hq
          clear hm hcs hps hkp hpq hl2 hsep RM RK RL HNIL
          have sz := SM.out.size
          by_cases hlt : q < ml
          · obtain ⟨y, hy⟩ : ∃ y, late[q]? = some y := ⟨_, List.getElem?_eq_getElem (by rw [HML.out]; exact hlt)⟩
            obtain ⟨j, hj, hyk, hyr⟩ := HLT.out q y hy
            obtain ⟨b, o, c0, hv', -, hb, hX⟩ := SL.out.at_ hy
            rw [HML.out] at hv'
            injection hv' with e1 e2 e3
            subst e1 e3
            have d0 := hX 0 _ rfl
            have d1 := hX 1 _ rfl
            have d2 := hX 2 _ rfl
            have d3 := hX 3 _ rfl
            have d4 := hX 4 _ rfl
            have d5 := hX 5 _ rfl
            have d6 := hX 6 _ rfl
            have d7 := hX 7 _ rfl
            have d8 := hX 8 _ rfl
            have d9 := hX 9 _ rfl
            have d10 := hX 10 _ rfl
            have d11 := hX 11 _ rfl
            simp only [Nat.add_zero] at d0 d1 d2 d3 d4 d5 d6 d7 d8 d9 d10 d11
            have HY := Lib.hid hy
            obtain ⟨yk, ⟨t0, t1, t2, t3, t4, t5, t6, t7, t8, t9, t10⟩⟩ := y
            simp only at d0 d1 d2 d3 d4 d5 d6 d7 d8 d9 d10 d11 hyk hyr
            subst hyk
            have HYR := Lib.hid (show (F.R j)[pos' j]? = some ⟨t0, t1, t2, t3, t4, t5, t6, t7, t8, t9, t10⟩ by rw [SQ.out j hj]; exact hyr)
            clear hX hy hyr e2
            have hqm2 : (q : Int) < (ml : Int) := by omega
            go_upto_region 19 with fail
            obtain ⟨W3, hW3⟩ : ∃ X, X = wr.alloc (.cells #[.int .i64 (j : Int), .int .i64 t0, .string t1, .int .i64 t2, .int .i64 t3, .int .i64 t4, .int .i64 t5, .int .i64 t6, .int .i64 t7, .string t8, .int .i64 t9, .int .i64 t10] 49) := ⟨_, rfl⟩
            rw [← hW3]
            have NL := Lib.hid (show W3.heap[wr.heap.size]? = some (.cells #[.int .i64 (j : Int), .int .i64 t0, .string t1, .int .i64 t2, .int .i64 t3, .int .i64 t4, .int .i64 t5, .int .i64 t6, .int .i64 t7, .string t8, .int .i64 t9, .int .i64 t10] 49 (0, 0)) by rw [hW3]; exact heap_at _ _ _ rfl)
            have B3 := Lib.hid (show Below wr.heap.size wr W3 by rw [hW3]; exact bel_alloc (Below.refl _ _) _)
            have M3 := Lib.hid (SM.out.below HF.out B3.out)
            have L3 := Lib.hid (SL.out.below B3.out)
            clear hW3 d0 d1 d2 d3 d4 d5 d6 d7 d8 d9 d10 d11 hb
            have xo : W3.cell? ⟨F.bOK, 0, none⟩ = some (.bool true) := cellsAt M3.out.OK 0
            have xf : W3.cell? ⟨F.bF, 0, none⟩ = some F.vF := cellsAt M3.out.Fn 0
            rw [HVF.out] at xf
            unfold CFix.func at xf
            have u0 := cellsAt NL.out 0
            have u1 := cellsAt NL.out 1
            have u2 := cellsAt NL.out 2
            have u3 := cellsAt NL.out 3
            have u4 := cellsAt NL.out 4
            have u5 := cellsAt NL.out 5
            have u6 := cellsAt NL.out 6
            have u7 := cellsAt NL.out 7
            have u8 := cellsAt NL.out 8
            have u9 := cellsAt NL.out 9
            have u10 := cellsAt NL.out 10
            have u11 := cellsAt NL.out 11
            simp at u0 u1 u2 u3 u4 u5 u6 u7 u8 u9 u10 u11
            have HCL := IH.out c' (by omega) j ⟨t0, t1, t2, t3, t4, t5, t6, t7, t8, t9, t10⟩ pos' va' a2 P' hs2 _ M3.out SC.out SP.out hj HYR.out
            unfold itV at HCL
            have HCLH := Lib.hid HCL
            clear HCL
            go_wp2_with fail
            refine HCLH.out.mono ?_
            rintro e w9 ⟨rfl, c2, va3, a3, P3, hs3, hcc2, hm3, hcs3, hps3, hk3⟩
            have TM := Lib.hid hm3
            have TC := Lib.hid hcs3
            have TP := Lib.hid hps3
            have TK := Lib.hid hk3
            clear hm3 hcs3 hps3 hk3 xo xf u0 u1 u2 u3 u4 u5 u6 u7 u8 u9 u10 u11 HCLH
            go_wp2_with fail
            go_roundw
            case rel =>
              refine ⟨q + 1, c2, updN pos' j (pos' j + 1), va3, a3, P3, hs3, by go_num, by rw [HML.out]; omega, by omega, TM.out, TC.out, TP.out, (SK.out.trans (Kept.below B3.out)).trans TK.out, fun i hi => ?_, L3.out.keepIn (fun b hb hl => TK.out.blk b (L3.out.blk_lt hl hb) (by have := HLN.out b hb; omega) (by have := HLN.out b hb; omega) (by have := HLN.out b hb; omega) (SS.out b hb hl)) TK.out.size, fun b hb hl h hh e => ?_⟩
              · rw [cntL_take_snoc HY.out]
                by_cases e1 : i = j
                · subst e1
                  rw [updN_same, SQ.out i hi, if_pos rfl]
                  omega
                · rw [updN_other _ _ e1, SQ.out i hi, if_neg (by show ¬ ((j : Int) = (i : Int)); omega)]
                  omega
              · rcases TK.out.new h hh b e with ⟨x, hx, hxb⟩ | h3
                · exact SS.out b hb hl x hx hxb
                · have h4 := SL.out.blk_lt hl hb
                  have h5 := B3.out.size
                  omega
            case measure => simp [intOf]; omega
          · have hqe : q = ml := by omega
            subst hqe
            go_wp2_with fail
            go_end0
            refine ⟨rfl, c', va', a2, P', hs2, by omega, SM.out, SC.out.congr (fun j hj => ?_), SP.out, SK.out⟩
            have h1 := SQ.out j hj
            rw [List.take_of_length_le (by rw [HML.out]; exact Nat.le_refl _)] at h1
            rw [h1]
            exact (HLE.out j hj).symm
theorem cclos (F : CFix) (hF : F.Ok) (hvF : F.vF = F.func) : ∀ m c, F.B + 1 - c ≤ m → ClAt F c := by
  intro m
  induction m with
  | zero =>
    intro c hc k x pos va a P hs w hM hC hP hk hx
    have := hC.cB
    omega
  | succ m ih =>
    intro c hc
    exact cclos_step F hF hvF c (fun c' h => ih c' (by omega))
end Go.Proofs.Ytenpgkkefielfaa
