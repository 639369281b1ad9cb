/-
  WALKS of the law AlignCuts: an input's items, cut at its barriers.
-/
import Derived.Test.YtenpgkkefielfaaCutP3
import Derived.Test.YtenpgkkefielfaaCutA
import Derived.Deep.RegionLaw
set_option linter.unusedVariables false
set_option linter.unusedSimpArgs false
namespace Go.Proofs.Ytenpgkkefielfaa
open Go.RowKit

/-- Rows that are the segments of a row. -/
def SegsAt (r : List It) (e : Nat → Nat) (c i : Nat) (hs : List Hl) : Prop :=
  hs.length = c + 1 ∧ (∀ d, d < c → ∃ h, hs[d]? = some h ∧ h.l = (r.take (e d)).drop (sgo e d)) ∧ ∃ h, hs[c]? = some h ∧ h.l = (r.take i).drop (sgo e c)
theorem SegsAt.put {r : List It} {e : Nat → Nat} {c i : Nat} {hs : List Hl} (h : SegsAt r e c i hs) {y : Hl} (hy : hs[c]? = some y) {x : It} (hx : r[i]? = some x) (hsi : sgo e c ≤ i) (v : Value) : SegsAt r e c (i + 1) (hs.set c ⟨v, y.l ++ [x]⟩) := by
  obtain ⟨h1, h2, y', hy', hy2⟩ := h
  rw [hy] at hy'
  injection hy' with hy'
  subst hy'
  have hil := (List.getElem?_eq_some_iff.1 hx).1
  refine ⟨by rw [List.length_set]; exact h1, fun d hd => ?_, _, List.getElem?_set_self (by omega), ?_⟩
  · obtain ⟨z, hz, hz2⟩ := h2 d hd
    exact ⟨z, by rw [List.getElem?_set_ne (by omega)]; exact hz, hz2⟩
  · show y.l ++ [x] = _
    rw [hy2, List.take_add_one, hx, List.drop_append_of_le_length (by rw [List.length_take]; omega)]
    rfl
theorem SegsAt.next {r : List It} {e : Nat → Nat} {c i : Nat} {hs : List Hl} (h : SegsAt r e c i hs) (hi : i = e c) : SegsAt r e (c + 1) (i + 1) (hs ++ [hZ]) := by
  obtain ⟨h1, h2, y, hy, hy2⟩ := h
  refine ⟨by simp [h1], fun d hd => ?_, hZ, ?_, ?_⟩
  · by_cases e1 : d = c
    · subst e1
      exact ⟨y, by rw [List.getElem?_append_left (by omega)]; exact hy, by rw [← hi]; exact hy2⟩
    · obtain ⟨z, hz, hz2⟩ := h2 d (by omega)
      exact ⟨z, by rw [List.getElem?_append_left (by omega)]; exact hz, hz2⟩
  · rw [List.getElem?_append_right (by omega), h1, Nat.sub_self]
    rfl
  · show [] = (r.take (i + 1)).drop (e c + 1)
    rw [hi]
    exact (List.drop_of_length_le (by rw [List.length_take]; omega)).symm
theorem RrAt.turn {bs : Nat} {W2 W5 : World} {g co c ny cy : Nat} {hs : List Hl} {y : Hl} {x : It} {Ay : Option Addr} {X : Obj} {v5 : Value} (h : RrAt bs W2 (.slice (some ⟨g, 0, none⟩) (c + 1) co) hs) (hl : hs.length = c + 1) (hy : hs[c]? = some y) (hyr : y.row = .slice Ay y.l.length cy) (hny : y.l.length = ny)
    (ho : W5.ownsRow bs 43 11 v5 (ny + 1) (y.l.flatMap It.cs ++ x.cs)) (hg : (W2.alloc X).grownBy W5 (Value.slice Ay ny cy).ownBlock) (hloc : v5.ownBlock = (Value.slice Ay ny cy).ownBlock ∨ v5.ownBlock = some (W2.alloc X).heap.size) :
    RrAt bs (W5.setCell ⟨g, c, none⟩ v5) (.slice (some ⟨g, 0, none⟩) (c + 1) co) (hs.set c ⟨v5, y.l ++ [x]⟩) ∧ Below bs W2 (W5.setCell ⟨g, c, none⟩ v5) := by
  rw [hny] at hyr
  have hgl := h.own.lt g rfl
  have hbl : Below W2.heap.size W2 (W2.alloc X) := bel_alloc (Below.refl _ _) _
  have h2 := h.below hbl
  rw [← hl] at h2
  constructor
  · have h3 := h2.put (x := x) hy (v5 := v5) (by rw [hny]; exact ho) (by rw [hyr]; exact hg) (by rw [hyr]; exact hloc)
    rw [hl] at h3
    exact h3
  · refine ((hbl.mono (by omega)).grown hg (by have := hbl.size; omega) (fun k e => ?_)).setCell (p := ⟨g, c, none⟩) hgl.1 _
    rw [← hyr] at e
    exact ((h.rows y (List.mem_of_getElem? hy)).lt k e).1
/-- What cuts tells. -/
def CtTo (B : Nat) (r : List It) (e : Nat → Nat) (w : World) (en : Ending) (w' : World) : Prop :=
  ∃ (vo : Value) (hs : List Hl), en = .returned vo ∧ RrAt w.heap.size w' vo hs ∧ hs.length = B + 1 ∧ (∀ d, d ≤ B → ∃ h, hs[d]? = some h ∧ h.l = (r.take (e d)).drop (sgo e d)) ∧ Below w.heap.size w w'
def CtRel (B m : Nat) (r : List It) (e : Nat → Nat) (w : World) (vo vi : Value) (wr : World) : Prop :=
  ∃ (i c : Nat) (hs : List Hl), vi = .int .i64 i ∧ i ≤ m ∧ c ≤ B ∧ sgo e c ≤ i ∧ i ≤ e c ∧ RrAt w.heap.size wr vo hs ∧ SegsAt r e c i hs ∧ Below w.heap.size w wr
set_option maxRecDepth 100000 in
set_option maxHeartbeats 4000000 in
theorem ccuts_any (B : Nat) (r : List It) (e : Nat → Nat) (v : Value) (w : World) (hv : Row It.cs 11 w v r) (hc : CutRow B r e) :
    Calls Try.prog 17 #[v] w (CtTo B r e w) := by
  have HV := Lib.hid hv
  have HC := Lib.hid hc
  obtain ⟨i0, hi0', hz0, hz1, hz2⟩ := info_parts info_it
  have HI := Lib.hid hi0'
  have HZ0 := Lib.hid hz0
  have HZ1 := Lib.hid hz1
  have HZ2 := Lib.hid hz2
  obtain ⟨iL, hiL, hzL0, hzL1, hzL2⟩ := info_parts info_li
  have LI := Lib.hid hiL
  have LZ0 := Lib.hid hzL0
  have LZ1 := Lib.hid hzL1
  have LZ2 := Lib.hid hzL2
  unfold itV at HZ0
  obtain ⟨A, cc, rfl, hcc, -⟩ := hv
  obtain ⟨m, hm⟩ : ∃ m, r.length = m := ⟨_, rfl⟩
  have HM := Lib.hid hm
  rw [hm] at HV ⊢
  have hm14 : m ≤ 14 := by rw [← hm]; exact hc.len
  clear hi0' hz0 hz1 hz2 hm hcc hc hiL hzL0 hzL1 hzL2
  go_enter Try.func17, Try.ntmps17
  go_wp2_with fail
  go_loopw [3, 9] (fun vo vi wr => CtRel B m r e w vo vi wr) (fun _ vi _ => m - (intOf vi).toNat)
  case atStart =>
    refine ⟨0, 0, [hZ], rfl, Nat.zero_le _, Nat.zero_le _, Nat.le_refl _, Nat.zero_le _, RrAt.one (Nat.le_refl _), ⟨rfl, fun d hd => by omega, hZ, rfl, by simp [hZ]⟩, bel_alloc (Below.refl _ _) _⟩
  case round =>
    obtain ⟨i, c, hs, rfl, him, hcB, hsi, hie, hrr, hseg, hbel⟩ := hrel
    have HR := Lib.hid hrr
    have HS := Lib.hid hseg
    have HB := Lib.hid hbel
    obtain ⟨Ao, co, rfl⟩ := own_slice hrr.own
    have hsl : hs.length = c + 1 := hseg.1
    have HSL := Lib.hid hsl
    rw [hsl] at HR ⊢
    have HO := Lib.hid (show wr.ownsRow w.heap.size 32 1 (.slice Ao (c + 1) co) (c + 1) (hs.flatMap Hl.cs) by have h := HR.out.own; rw [hsl] at h; exact h)
    clear hrr hseg hbel hsl
    have hB2 := HC.out.len
    by_cases hlt : i < m
    · obtain ⟨x, hx⟩ : ∃ x, r[i]? = some x := ⟨_, List.getElem?_eq_getElem (by rw [HM.out]; exact hlt)⟩
      have hrow := HV.out.below HB.out
      obtain ⟨b, o, c', hv', -, hb, hX⟩ := hrow.at_ hx
      rw [HM.out] at hv'
      injection hv' with e1 e2 e3
      subst e1 e3
      have c0 := hX 0 _ rfl
      have c1 := hX 1 _ rfl
      have c2 := hX 2 _ rfl
      have c3 := hX 3 _ rfl
      have c4 := hX 4 _ rfl
      have c5 := hX 5 _ rfl
      have c6 := hX 6 _ rfl
      have c7 := hX 7 _ rfl
      have c8 := hX 8 _ rfl
      have c9 := hX 9 _ rfl
      have c10 := hX 10 _ rfl
      simp only [Nat.add_zero] at c0 c1 c2 c3 c4 c5 c6 c7 c8 c9 c10
      have HX := Lib.hid hx
      clear hX hrow hx e2
      have hce : c < 20 := by
        have h1 := HC.out.le hcB
        have h2 : ∀ d, d ≤ c → d ≤ e d := by
          intro d
          induction d with
          | zero => intro _; exact Nat.zero_le _
          | succ d ih =>
            intro hd
            have h3 := ih (by omega)
            have h4 : e d < e (d + 1) := HC.out.mono (by omega) (by omega)
            omega
        have := h2 c (Nat.le_refl _)
        omega
      obtain ⟨y0, y1, y2, y3, y4, y5, y6, y7, y8, y9, y10⟩ := x
      simp only at c0 c1 c2 c3 c4 c5 c6 c7 c8 c9 c10
      go_upto_region 5 with fail
      obtain ⟨W2, hW2⟩ : ∃ X, X = wr.alloc (.cells #[.int .i64 y0, .string y1, .int .i64 y2, .int .i64 y3, .int .i64 y4, .int .i64 y5, .int .i64 y6, .int .i64 y7, .string y8, .int .i64 y9, .int .i64 y10] 43) := ⟨_, rfl⟩
      rw [← hW2]
      have N2 := Lib.hid (show W2.heap[wr.heap.size]? = some (.cells #[.int .i64 y0, .string y1, .int .i64 y2, .int .i64 y3, .int .i64 y4, .int .i64 y5, .int .i64 y6, .int .i64 y7, .string y8, .int .i64 y9, .int .i64 y10] 43 (0, 0)) by rw [hW2]; exact heap_at _ _ _ rfl)
      have BW := Lib.hid (show Below wr.heap.size wr W2 by rw [hW2]; exact bel_alloc (Below.refl _ _) _)
      have B2 := Lib.hid (bThen HB.out BW.out)
      have R2 := Lib.hid (HR.out.below BW.out)
      have O2 := Lib.hid (own_below HO.out BW.out)
      clear hW2 c0 c1 c2 c3 c4 c5 c6 c7 c8 c9 c10 hb
      have zb := blk_lt N2.out
      have x0 := cellsAt N2.out 0
      have x1 := cellsAt N2.out 1
      have x2 := cellsAt N2.out 2
      have x3 := cellsAt N2.out 3
      have x4 := cellsAt N2.out 4
      have x5 := cellsAt N2.out 5
      have x6 := cellsAt N2.out 6
      have x7 := cellsAt N2.out 7
      have x8 := cellsAt N2.out 8
      have x9 := cellsAt N2.out 9
      have x10 := cellsAt N2.out 10
      simp at x0 x1 x2 x3 x4 x5 x6 x7 x8 x9 x10
      have hs2 := B2.out.size
      by_cases hie2 : i < e c
      · have hnb : y0 ≠ 4 := HC.out.mark i _ HX.out (fun d hd => by
          intro e4
          rcases Nat.lt_trichotomy d c with h1 | h1 | h1
          · obtain ⟨c2, rfl⟩ : ∃ c2, c = c2 + 1 := ⟨c - 1, by omega⟩
            have hsi' : e c2 + 1 ≤ i := hsi
            have : e d ≤ e c2 := by
              by_cases e5 : d = c2
              · subst e5; exact Nat.le_refl _
              · exact Nat.le_of_lt (HC.out.mono (by omega) (by omega))
            omega
          · subst h1; omega
          · have := HC.out.mono h1 (by omega)
            omega)
        have d4 : (y0 == 4) = false := beq_eq_false_iff_ne.2 hnb
        obtain ⟨y, hy1, hy2⟩ := HS.out.2.2
        have HY := Lib.hid hy1
        have HYL := Lib.hid hy2
        have hym := List.mem_of_getElem? hy1
        have hyl : y.l.length ≤ 14 := by rw [hy2, List.length_drop, List.length_take, HM.out]; omega
        obtain ⟨g, cap, hv', hg1, hg2, hnc⟩ := own_form O2.out (by omega)
        injection hv' with e1 e2 e3
        subst e1 e3
        have hro := Row.of_own Hl.cs_len R2.out.own rfl
        obtain ⟨b1, o1, c1, hv1, -, -, hY⟩ := hro.at_ hy1
        injection hv1 with e1 e2 e3
        injection e1 with e1
        injection e1 with e1 e5 e6
        subst e1 e5
        have r0 := hY 0 _ rfl
        simp only [Nat.zero_add, Nat.mul_one, Nat.add_zero] at r0
        obtain ⟨Ay, cy, hyr⟩ := own_slice (R2.out.rows y hym)
        have OY := Lib.hid (R2.out.rows y hym)
        rw [hyr] at r0 OY
        obtain ⟨ny, hny⟩ : ∃ z, y.l.length = z := ⟨_, rfl⟩
        rw [hny] at r0 OY hyl
        have HNY := Lib.hid hny
        have HYR := Lib.hid hyr
        clear hY hro hy1 hy2 hym hyr hny e2 e3 e6
        have hcc1 : IntKind.i64.wrap (c : Int) = (c : Int) := by rw [IntKind.wrap_i64]; omega
        have hcc2 : ((c : Int)).toNat = c := rfl
        have hcc3 : (c : Int) < (c : Int) + 1 := by omega
        have hgo : some g ≠ (Value.slice Ay ny cy).ownBlock := by
          rcases own_ne O2.out OY.out (by decide) with h2 | h2
          · cases h2
          · exact h2
        rcases O2.out.2 with ⟨h0, -⟩ | ⟨g', cap', cur, hv2, -, hcur, hccap, -, hcsz, -⟩
        · cases h0
        injection hv2 with e1 e2 e3
        injection e1 with e1
        injection e1 with e1
        subst e1 e3
        have HCU := Lib.hid hcur
        have HCC := Lib.hid (show cur[c]? = some cur[c] from Array.getElem?_eq_getElem (by omega))
        clear hcur e2
        go_upto_region 7 with fail
        go_region_law (first | (refine step_own_at rfl _ _ 32 rfl w.heap.size 43 i0 _ 11 104 Try.underlying32 HI.out HZ0.out HZ1.out HZ2.out rfl (by decide) _ _ _ rfl (World.ownsRow.alloc OY.out _) _ 1 1 [.int .i64 y0, .string y1, .int .i64 y2, .int .i64 y3, .int .i64 y4, .int .i64 y5, .int .i64 y6, .int .i64 y7, .string y8, .int .i64 y9, .int .i64 y10] rfl rfl (fun j u h => rs_news W2 _ _ _ rfl j u h) (by intro u hu; simp at hu; rcases hu with rfl | rfl | rfl | rfl | rfl | rfl | rfl | rfl | rfl | rfl | rfl <;> rfl) (by unfold maxLen; omega) (by omega) (by simp; omega) ?_; intro v5 W5 hown5 hgrow5 hloc5; obtain ⟨A5, c5, rfl⟩ := own_slice hown5; have h5 := (hgrow5.block g (show g < (W2.alloc (.cells #[.int .i64 y0, .string y1, .int .i64 y2, .int .i64 y3, .int .i64 y4, .int .i64 y5, .int .i64 y6, .int .i64 y7, .string y8, .int .i64 y9, .int .i64 y10] 43)).heap.size by simp; omega) hgo).trans ((heap_alloc_old _ _ (show g < W2.heap.size by omega)).trans HCU.out); have z5 := blk_lt h5; have q5 := (cellsAt h5 c).trans HCC.out; have f5 := frozAt h5))
        all_goals
          have hg5 : (W2.alloc (.cells #[.int .i64 y0, .string y1, .int .i64 y2, .int .i64 y3, .int .i64 y4, .int .i64 y5, .int .i64 y6, .int .i64 y7, .string y8, .int .i64 y9, .int .i64 y10] 43)).grownBy W5 (Value.slice Ay ny cy).ownBlock := ⟨hgrow5.os, hgrow5.tape, hgrow5.output, hgrow5.size, hgrow5.block⟩
          obtain ⟨hr5, hb5⟩ := R2.out.turn HSL.out HY.out HYR.out HNY.out (x := ⟨y0, y1, y2, y3, y4, y5, y6, y7, y8, y9, y10⟩) hown5 hg5 hloc5
          have HR5 := Lib.hid hr5
          have HB5 := Lib.hid (B2.out.trans hb5)
          clear hg5 hr5 hb5 hown5 hgrow5 hloc5 h5 z5 q5 f5 x0 x1 x2 x3 x4 x5 x6 x7 x8 x9 x10 zb r0
          go_wp2_with fail
          go_roundw
          case rel => exact ⟨i + 1, c, _, by go_num, by omega, hcB, by omega, by omega, HR5.out, HS.out.put HY.out HX.out hsi _, HB5.out⟩
          case measure => simp [intOf]; omega
      · have hib : i = e c := by omega
        have hcB2 : c < B := by
          by_cases h1 : c = B
          · have := HC.out.last
            rw [← h1, ← hib, HM.out] at this
            omega
          · omega
        have hbar := HC.out.bar c hcB2
        rw [← hib, HX.out] at hbar
        injection hbar with hbar
        unfold barI at hbar
        injection hbar with g0
        subst g0
        go_wp2_with (at_builtin; refine wpList_push _ rfl _ _ 22 rfl w.heap.size 32 iL _ 1 24 Try.underlying22 LI.out LZ0.out LZ1.out LZ2.out rfl (by decide) _ _ _ rfl O2.out #[.slice none 0 0] 32 rfl rfl (by intro u hu; simp at hu; subst hu; rfl) (by unfold maxLen; omega) (by omega) hs2 ?_)
        intro v5 W5 hown5 hb5 hk5
        have HR5 := Lib.hid (R2.out.pushNil (by rw [HSL.out]; exact hown5) hk5)
        have HB5 := Lib.hid (B2.out.trans hb5)
        obtain ⟨A5, c5, rfl⟩ := own_slice hown5
        clear hown5 hb5 hk5 x0 x1 x2 x3 x4 x5 x6 x7 x8 x9 x10 zb
        go_wp2_with fail
        go_roundw
        case rel => exact ⟨i + 1, c + 1, hs ++ [hZ], by go_num, by omega, by omega, by rw [hib]; exact Nat.le_refl _, by rw [hib]; exact HC.out.seg (c + 1) (by omega), HR5.out, HS.out.next hib, HB5.out⟩
        case measure => simp [intOf]; omega
    · obtain rfl : i = m := by omega
      have hcB2 : c = B := by
        by_cases h1 : c = B
        · exact h1
        · have := HC.out.lt (c := c) (by omega)
          rw [HM.out] at this
          omega
      subst hcB2
      go_wp2_with fail
      go_ret
      refine ⟨_, hs, rfl, by rw [HSL.out] at *; exact HR.out, HSL.out, fun d hd => ?_, HB.out⟩
      by_cases h1 : d = c
      · subst h1
        obtain ⟨y, hy, hy2⟩ := HS.out.2.2
        exact ⟨y, hy, by rw [hy2, HC.out.last, HM.out]⟩
      · exact HS.out.2.1 d (by omega)
end Go.Proofs.Ytenpgkkefielfaa
