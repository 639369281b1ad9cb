/-
  WALK of the law ChunkApart.
-/
import Derived.Test.YtdanfeldbdooeaaChunkP2
import Derived.BigRegion
import Derived.Deep.DeepCutAuto
set_option linter.unusedVariables false
set_option linter.unusedSimpArgs false
namespace Go.Proofs.Ytdanfeldbdooeaa
open Go.RowKit

theorem Below.heap_block3 (w1 : World) (g k : Nat) (hk : k ≠ g) (a b c : Value) :
    (((w1.setCell ⟨g, 0, none⟩ a).setCell ⟨g, 1, none⟩ b).setCell ⟨g, 2, none⟩ c).heap[k]? = w1.heap[k]? := by
  have h1 : ∀ (w : World) (j : Nat) (u : Value), (w.setCell ⟨g, j, none⟩ u).heap[k]? = w.heap[k]? := fun w j u => Below.heap_setCell w ⟨g, j, none⟩ u k hk
  rw [h1, h1, h1]
def ApRel (W0 : World) (cs : Array Value) (p q r : Value) (W : World) : Prop :=
  ∃ a b c : Nat, p = .pointer (some ⟨a, 0, none⟩) ∧ q = .pointer (some ⟨b, 0, none⟩) ∧ r = .pointer (some ⟨c, 0, none⟩) ∧ a ≠ b ∧ a ≠ c ∧ b ≠ c ∧ W0.heap.size ≤ a ∧ W0.heap.size ≤ b ∧ W0.heap.size ≤ c ∧ W.heap[a]? = some (.cells cs 56 (0, 0)) ∧ W.heap[b]? = some (.cells cs 56 (0, 0)) ∧ W.heap[c]? = some (.cells cs 56 (0, 0)) ∧ Below W0.heap.size W0 W
theorem ap_rel {XX : World} {cs : Array Value} {a b c : Nat} (hab : a ≠ b) (hac : a ≠ c) (hbc : b ≠ c) (ha : a = XX.heap.size ∨ a = XX.heap.size + 1 ∨ a = XX.heap.size + 1 + 1) (hb : b = XX.heap.size ∨ b = XX.heap.size + 1 ∨ b = XX.heap.size + 1 + 1) (hc : c = XX.heap.size ∨ c = XX.heap.size + 1 ∨ c = XX.heap.size + 1 + 1) :
    ApRel XX cs (.pointer (some ⟨a, 0, none⟩)) (.pointer (some ⟨b, 0, none⟩)) (.pointer (some ⟨c, 0, none⟩)) (((XX.alloc (.cells cs 56)).alloc (.cells cs 56)).alloc (.cells cs 56)).drew := by
  have h : ∀ k, (k = XX.heap.size ∨ k = XX.heap.size + 1 ∨ k = XX.heap.size + 1 + 1) → (((XX.alloc (.cells cs 56)).alloc (.cells cs 56)).alloc (.cells cs 56)).heap[k]? = some (.cells cs 56 (0, 0)) := by
    intro k hk
    rcases hk with rfl | rfl | rfl
    · exact heap_below (heap_at XX _ _ rfl) (bel_alloc (bel_alloc (Below.refl _ _) _) _)
    · exact heap_below (heap_at (XX.alloc _) _ _ (by simp)) (bel_alloc (Below.refl _ _) _)
    · exact heap_at _ _ _ (by simp)
  exact ⟨a, b, c, rfl, rfl, rfl, hab, hac, hbc, by omega, by omega, by omega, h a ha, h b hb, h c hc, Below.drew (bel_alloc (bel_alloc (bel_alloc (Below.refl _ _) _) _) _)⟩
set_option maxRecDepth 100000 in
set_option maxHeartbeats 4000000 in
theorem apart_walk (group k : Int) (s more : ByteArray) (hk : wfL k) (hs : s.size ≤ 9223372036854775807) (hm : more.size ≤ 9223372036854775807) (w : World) :
    Calls Try.prog 10 #[.int .i64 group, .string s, .int .i64 k, .string more] w fun e w' => e = .returned (.bool true) ∧ Below w.heap.size w w' := by
  unfold wfL at hk
  obtain ⟨G, hG⟩ : ∃ G : Int, min (max group 0) 30 = G := ⟨_, rfl⟩
  have hG0 : 0 ≤ G := by omega
  have hG1 : G ≤ 30 := by omega
  have HGG := Lib.hid hG
  clear hG
  go_enter Try.func10, Try.ntmps10
  go_upto_region 2 with fail
  rw [HGG.out]
  by_cases h3 : 3000 < s.size
  · have t3 : decide (3000 < (s.size : Int)) = true := by simp; omega
    have t3n : decide (3000 < s.size) = true := by simp; omega
    have h30 : (3000 : Int) ≤ (s.size : Int) := by omega
    go_upto_region 4 with fail
    obtain ⟨S, hSe⟩ : ∃ S, s.extract 0 3000 = S := ⟨_, rfl⟩
    rw [hSe]
    have hS : S.size ≤ 3000 := by rw [← hSe, ByteArray.size_extract]; omega
    clear hSe
    have hgb : (decide (0 ≤ G) && decide (G < 32)) = true := by simp; omega
    obtain ⟨nn, hnn⟩ : ∃ n, nOf S = n := ⟨_, rfl⟩
    have hn1 : 1 ≤ nn := by rw [← hnn]; unfold nOf; omega
    have hn12 : nn ≤ 12 := by rw [← hnn]; unfold nOf; omega
    have HNN := Lib.hid hnn
    clear hnn
    have hr1 : k.tmod nn < nn := Int.tmod_lt_of_pos k (by omega)
    have hr2 : -(nn : Int) < k.tmod nn := Int.lt_tmod_of_pos k (by omega)
    have hww : wrap64 (k.tmod nn + nn) = k.tmod nn + nn := IntWalk.wrap64_in _ (by omega)
    obtain ⟨K, hK⟩ : ∃ K : Nat, (k.tmod nn + nn).tmod nn = (K : Int) := ⟨((k.tmod nn + nn).tmod nn).toNat, by have := Int.tmod_nonneg (nn : Int) (show 0 ≤ k.tmod nn + nn by omega); omega⟩
    have hKN : K < nn := by have := Int.tmod_lt_of_pos (k.tmod nn + nn) (show (0 : Int) < nn by omega); omega
    have hKi : (K : Int) < (nn : Int) := by omega
    have hK0 : (0 : Int) ≤ (K : Int) := by omega
    have hnz : ¬ ((nn : Int) = 0) := by omega
    have hnz2 : ((nn : Int) == 0) = false := by simp; omega
    have hnz3 : decide ((nn : Int) = 0) = false := by simp; omega
    go_wp2_with fail
    refine (split_yes G S _ hG0 (by omega) (by omega)).mono ?_
    rintro e ws ⟨vl, rfl, hrow, hb1⟩
    have RL := Lib.hid hrow
    obtain ⟨Al, cl, rfl, -⟩ := hrow
    rw [splitL_len, HNN.out] at RL ⊢
    have HB0 := Lib.hid hb1
    clear hb1
    go_wp2_with fail
    refine (new_any G _ true hgb).mono ?_
    rintro e w1 ⟨rfl, hb2⟩
    have Z := Lib.hid (Row.below RL.out hb2)
    clear RL
    have RL := Z
    clear Z
    have BB3 := Lib.hid (bThen HB0.out hb2)
    clear hb2
    rw [if_pos rfl, if_pos rfl]
    go_upto_region 6 with fail
    have HGS := Lib.hid BB3.out.size
    obtain ⟨W4, hW5⟩ : ∃ X, X = (w1).alloc (.cells #[.int .i64 G, .int .i64 0, .slice none 0 0] 52) := ⟨_, rfl⟩
    rw [← hW5]
    have hb6 : Below w1.heap.size w1 W4 := by rw [hW5]; exact bel_alloc (Below.refl _ _) _
    have Nq := Lib.hid (show W4.heap[w1.heap.size]? = some (.cells #[.int .i64 G, .int .i64 0, .slice none 0 0] 52 (0, 0)) by rw [hW5]; exact heap_at (w1) _ (w1.heap.size) (by simp))
    have hsq : W4.heap.size = w1.heap.size + 1 := by rw [hW5]; simp
    clear hW5
    have Z := Lib.hid (Row.below RL.out hb6)
    clear RL
    have RL := Z
    clear Z
    have BB7 := Lib.hid (bThen BB3.out hb6)
    clear hb6
    have Blq := Nq
    clear Nq
    have HSQ := Lib.hid hsq
    clear hsq
    have zq := blk_lt Blq.out
    have xq0 := cellsAt Blq.out 0
    have xq1 := cellsAt Blq.out 1
    have xq2 := cellsAt Blq.out 2
    have fq := frozAt Blq.out
    simp at xq0 xq1 xq2
    obtain ⟨c, hc⟩ : ∃ c, ckOf G nn S K = c := ⟨_, rfl⟩
    have hL : (splitL G S)[K]? = some c := by unfold splitL; rw [HNN.out, List.getElem?_map, List.getElem?_range hKN, ← hc]; rfl
    have HMAY := Lib.hid (show mayB c = true by have := ck_may (g := G) (s := S) (K := K) hG0 (by omega) (by omega) (by rw [HNN.out]; exact hKN); rw [HNN.out, hc] at this; exact this)
    have HCG := Lib.hid (show c.g = G by rw [← hc]; rfl)
    have HCO := Lib.hid (show c.of_ = (nn : Int) by rw [← hc]; rfl)
    have HCS := Lib.hid (show c.b.size ≤ 9223372036854775807 by rw [← hc]; unfold ckOf; simp; omega)
    obtain ⟨b', o', c', e', hc', hb', hX⟩ := RL.out.at_ hL
    injection e' with e1 e2 e3
    clear e2
    subst e1 e3
    have x0 := hX 0 _ rfl
    have x1 := hX 1 _ rfl
    have x2 := hX 2 _ rfl
    have x3 := hX 3 _ rfl
    clear hX hL hc
    obtain ⟨cg, cn, co, cb⟩ := c
    simp only [Nat.add_zero] at x0 x1 x2 x3 HCS
    obtain rfl : cg = G := HCG.out
    obtain rfl : co = (nn : Int) := HCO.out
    have hti : ((K : Int)).toNat = K := by simp
    go_upto_region 9 with fail
    clear x0 x1 x2 x3 hww hK
    obtain ⟨W8, hW9⟩ : ∃ X, X = (W4).alloc (.cells #[.int .i64 cg, .int .i64 cn, .int .i64 nn, .string cb] 56) := ⟨_, rfl⟩
    rw [← hW9]
    have hb10 : Below W4.heap.size W4 W8 := by rw [hW9]; exact bel_alloc (Below.refl _ _) _
    have Nc := Lib.hid (show W8.heap[W4.heap.size]? = some (.cells #[.int .i64 cg, .int .i64 cn, .int .i64 nn, .string cb] 56 (0, 0)) by rw [hW9]; exact heap_at (W4) _ (W4.heap.size) (by simp))
    clear hW9
    have Z := Lib.hid (heap_below Blq.out hb10)
    clear Blq
    have Blq := Z
    clear Z
    have Z := Lib.hid (Row.below RL.out hb10)
    clear RL
    have RL := Z
    clear Z
    have BB11 := Lib.hid (bThen BB7.out hb10)
    clear hb10
    have Blc := Nc
    clear Nc
    clear zq fq xq0 xq1 xq2
    have zq := blk_lt Blq.out
    have xq0 := cellsAt Blq.out 0
    have xq1 := cellsAt Blq.out 1
    have xq2 := cellsAt Blq.out 2
    have fq := frozAt Blq.out
    simp at xq0 xq1 xq2
    have zc := blk_lt Blc.out
    have xc0 := cellsAt Blc.out 0
    have xc1 := cellsAt Blc.out 1
    have xc2 := cellsAt Blc.out 2
    have xc3 := cellsAt Blc.out 3
    have fc := frozAt Blc.out
    simp at xc0 xc1 xc2 xc3
    go_wp2_with fail
    have HGR := Lib.hid (show groupB cg = true from hgb)
    have HT := ctake_any cg 0 [] ⟨cg, cn, nn, cb⟩ ⟨HCS.out, by simp; omega⟩ (.slice none 0 0) W8 Row.none_ (by simp) (by simp)
    rw [take_first HGR.out HMAY.out rfl] at HT
    refine HT.mono ?_
    rintro e w12 ⟨v1, rfl, hr, hb13⟩
    have R1 := Lib.hid hr
    obtain ⟨A1, c1, rfl, -⟩ := hr
    clear HT
    clear zq fq xq0 xq1 xq2 zc fc xc0 xc1 xc2 xc3
    have Z := Lib.hid (heap_below Blq.out hb13)
    clear Blq
    have Blq := Z
    clear Z
    have Z := Lib.hid (heap_below Blc.out hb13)
    clear Blc
    have Blc := Z
    clear Z
    have BB14 := Lib.hid (bThen BB11.out hb13)
    clear hb13
    have zq := blk_lt Blq.out
    have xq0 := cellsAt Blq.out 0
    have xq1 := cellsAt Blq.out 1
    have xq2 := cellsAt Blq.out 2
    have fq := frozAt Blq.out
    simp at xq0 xq1 xq2
    go_upto_region 10 with fail
    have N1 := Lib.hid (setG3 Blq.out (.int .i64 cg) (.int .i64 nn) (.slice A1 1 c1))
    have N2 := Lib.hid (keepG Blq.out (.int .i64 cg) (.int .i64 nn) (.slice A1 1 c1) R1.out)
    have N3 := Lib.hid ((Below.heap_block3 w12 w1.heap.size W4.heap.size (by have := HSQ.out; omega) (.int .i64 cg) (.int .i64 nn) (.slice A1 1 c1)).trans Blc.out)
    have N4 := Lib.hid (belG3 BB14.out (g := w1.heap.size) HGS.out (.int .i64 cg) (.int .i64 nn) (.slice A1 1 c1))
    clear zq fq xq0 xq1 xq2
    clear Blq Blc R1 BB14
    generalize (((w12).setCell ⟨w1.heap.size, 0, none⟩ (.int .i64 cg)).setCell ⟨w1.heap.size, 1, none⟩ (.int .i64 nn)).setCell ⟨w1.heap.size, 2, none⟩ (.slice A1 1 c1) = XX at *
    have Blq := N1
    have R1 := N2
    have Blc := N3
    have BXX := N4
    clear N1 N2 N3 N4
    have zq := blk_lt Blq.out
    have xq0 := cellsAt Blq.out 0
    have xq1 := cellsAt Blq.out 1
    have xq2 := cellsAt Blq.out 2
    have fq := frozAt Blq.out
    simp at xq0 xq1 xq2
    have zc := blk_lt Blc.out
    have xc0 := cellsAt Blc.out 0
    have xc1 := cellsAt Blc.out 1
    have xc2 := cellsAt Blc.out 2
    have xc3 := cellsAt Blc.out 3
    have fc := frozAt Blc.out
    simp at xc0 xc1 xc2 xc3
    go_upto_region 12 with fail
    have RX := R1
    have hzqx := zq
    have hzcx := zc
    have zc1 : W4.heap.size < XX.heap.size + 1 := by omega
    have zc2 : W4.heap.size < XX.heap.size + 1 + 1 := by omega
    have zc3 : W4.heap.size < XX.heap.size + 2 := by omega
    go_cut [15, 16, 17] (fun p q r W => ApRel XX #[.int .i64 cg, .int .i64 cn, .int .i64 nn, .string cb] p q r W)
    case first =>
      go_region
      all_goals
        go_wp2_with fail
        go_meet
        with_reducible refine ap_rel ?_ ?_ ?_ ?_ ?_ ?_ <;> omega
    case rest =>
      clear zq fq xq0 xq1 xq2 zc fc xc0 xc1 xc2 xc3
      obtain ⟨pa, pb, pc, rfl, rfl, rfl, hab, hac, hbc, ha0, hb0, hc0, hba, hbb, hbcc, hbel⟩ := hcut
      clear zc1 zc2 zc3
      have Z1 := Lib.hid (heap_below Blq.out hbel)
      clear Blq
      have Blq := Z1
      clear Z1
      have Z1 := Lib.hid (heap_below Blc.out hbel)
      clear Blc
      have Blc := Z1
      clear Z1
      have Z1 := Lib.hid (R1.out.below hbel)
      clear R1
      have R1 := Z1
      clear Z1
      have hqa : w1.heap.size < XX.heap.size := by first | exact hzqx | assumption
      have hca : W4.heap.size < XX.heap.size := by first | exact hzcx | assumption
      have BXY := Lib.hid (bThen BXX.out hbel)
      have xa0 := cellsAt hba 0
      have xb2 := cellsAt hbb 2
      have xc3 := cellsAt hbcc 3
      have za := blk_lt hba
      have zb := blk_lt hbb
      have zc := blk_lt hbcc
      have fa := frozAt hba
      have fb := frozAt hbb
      have fc := frozAt hbcc
      simp at xa0 xb2 xc3
      have hba1 : pb ≠ pa := fun e => hab e.symm
      have hca1 : pc ≠ pa := fun e => hac e.symm
      have hcb1 : pc ≠ pb := fun e => hbc e.symm
      go_upto_region 16 with fail
      have Nq := Lib.hid ((Below.heap_setCell _ ⟨pc, 3, none⟩ (.string more) w1.heap.size (by show w1.heap.size ≠ pc; omega)).trans ((Below.heap_setCell _ ⟨pb, 2, none⟩ (.int .i64 ((nn : Int) + 1)) w1.heap.size (by show w1.heap.size ≠ pb; omega)).trans ((Below.heap_setCell wc ⟨pa, 0, none⟩ (.int .i64 (cg + 1)) w1.heap.size (by show w1.heap.size ≠ pa; omega)).trans Blq.out)))
      have Nc := Lib.hid ((Below.heap_setCell _ ⟨pc, 3, none⟩ (.string more) W4.heap.size (by show W4.heap.size ≠ pc; omega)).trans ((Below.heap_setCell _ ⟨pb, 2, none⟩ (.int .i64 ((nn : Int) + 1)) W4.heap.size (by show W4.heap.size ≠ pb; omega)).trans ((Below.heap_setCell wc ⟨pa, 0, none⟩ (.int .i64 (cg + 1)) W4.heap.size (by show W4.heap.size ≠ pa; omega)).trans Blc.out)))
      have Na := Lib.hid ((Below.heap_setCell _ ⟨pc, 3, none⟩ (.string more) pa (by show pa ≠ pc; exact hac)).trans ((Below.heap_setCell _ ⟨pb, 2, none⟩ (.int .i64 ((nn : Int) + 1)) pa (by show pa ≠ pb; exact hab)).trans (blk_set hba 0 (.int .i64 (cg + 1)))))
      have Nb := Lib.hid ((Below.heap_setCell _ ⟨pc, 3, none⟩ (.string more) pb (by show pb ≠ pc; exact hbc)).trans (blk_set ((Below.heap_setCell wc ⟨pa, 0, none⟩ (.int .i64 (cg + 1)) pb (by show pb ≠ pa; exact hba1)).trans hbb) 2 (.int .i64 ((nn : Int) + 1))))
      have Nd := Lib.hid (blk_set ((Below.heap_setCell _ ⟨pb, 2, none⟩ (.int .i64 ((nn : Int) + 1)) pc (by show pc ≠ pb; exact hcb1)).trans ((Below.heap_setCell wc ⟨pa, 0, none⟩ (.int .i64 (cg + 1)) pc (by show pc ≠ pa; exact hca1)).trans hbcc)) 3 (.string more))
      have hX0 := BXX.out.size
      have NB := Lib.hid (((BXY.out.setCell (p := ⟨pa, 0, none⟩) (by show w.heap.size ≤ pa; omega) (.int .i64 (cg + 1))).setCell (p := ⟨pb, 2, none⟩) (by show w.heap.size ≤ pb; omega) (.int .i64 ((nn : Int) + 1))).setCell (p := ⟨pc, 3, none⟩) (by show w.heap.size ≤ pc; omega) (.string more))
      have hbx := hbel
      have NX := Lib.hid (((hbel.setCell (p := ⟨pa, 0, none⟩) ha0 (.int .i64 (cg + 1))).setCell (p := ⟨pb, 2, none⟩) hb0 (.int .i64 ((nn : Int) + 1))).setCell (p := ⟨pc, 3, none⟩) hc0 (.string more))
      clear xa0 xb2 xc3 za zb zc fa fb fc Blq Blc R1 BXY hba hbb hbcc hbel hbx
      generalize ((wc.setCell ⟨pa, 0, none⟩ (.int .i64 (cg + 1))).setCell ⟨pb, 2, none⟩ (.int .i64 ((nn : Int) + 1))).setCell ⟨pc, 3, none⟩ (.string more) = W7 at *
      have Blq := Nq
      have Blc := Nc
      have Bla := Lib.hid (show W7.heap[pa]? = some (.cells #[.int .i64 (cg + 1), .int .i64 cn, .int .i64 nn, .string cb] 56 (0, 0)) by simpa using Na.out)
      have Blb := Lib.hid (show W7.heap[pb]? = some (.cells #[.int .i64 cg, .int .i64 cn, .int .i64 ((nn : Int) + 1), .string cb] 56 (0, 0)) by simpa using Nb.out)
      have Bld := Lib.hid (show W7.heap[pc]? = some (.cells #[.int .i64 cg, .int .i64 cn, .int .i64 nn, .string more] 56 (0, 0)) by simpa using Nd.out)
      have R1 := Lib.hid (RX.out.below NX.out)
      clear Nq Nc Na Nb Nd RX
      have HRI := Lib.hid (right_one (c := ⟨cg, cn, nn, cb⟩) HGR.out HMAY.out rfl (by simp; omega))
      have zq := blk_lt Blq.out
      have xq0 := cellsAt Blq.out 0
      have xq1 := cellsAt Blq.out 1
      have xq2 := cellsAt Blq.out 2
      have fq := frozAt Blq.out
      simp at xq0 xq1 xq2
      have za := blk_lt Bla.out
      have xa0 := cellsAt Bla.out 0
      have xa1 := cellsAt Bla.out 1
      have xa2 := cellsAt Bla.out 2
      have xa3 := cellsAt Bla.out 3
      have fa := frozAt Bla.out
      simp at xa0 xa1 xa2 xa3
      go_wp2_with fail
      have HT := ctake_any cg nn [⟨cg, cn, nn, cb⟩] ⟨cg + 1, cn, nn, cb⟩ ⟨HCS.out, by simp; omega⟩ (.slice A1 1 c1) W7 R1.out (by simp) (by intro y hy; simp at hy; subst hy; exact ⟨HCS.out, by simp; omega⟩)
      rw [take_other (c := ⟨cg, cn, nn, cb⟩) HRI.out (by unfold fitB; simp; intros; omega)] at HT
      refine HT.mono ?_
      rintro e w15 ⟨vx, rfl, hr, hb16⟩
      obtain ⟨Ax, cx, rfl, -⟩ := hr
      clear HT
      clear zq fq xq0 xq1 xq2 za fa xa0 xa1 xa2 xa3
      have Z := Lib.hid (heap_below Blq.out hb16)
      clear Blq
      have Blq := Z
      clear Z
      have Z := Lib.hid (heap_below Blc.out hb16)
      clear Blc
      have Blc := Z
      clear Z
      have Z := Lib.hid (heap_below Bla.out hb16)
      clear Bla
      have Bla := Z
      clear Z
      have Z := Lib.hid (heap_below Blb.out hb16)
      clear Blb
      have Blb := Z
      clear Z
      have Z := Lib.hid (heap_below Bld.out hb16)
      clear Bld
      have Bld := Z
      clear Z
      have Z := Lib.hid (Row.below R1.out hb16)
      clear R1
      have R1 := Z
      clear Z
      have BB17 := Lib.hid (bThen NB.out hb16)
      clear hb16
      go_upto_region 17 with fail
      obtain ⟨W18, hW19⟩ : ∃ X, X = (w15).alloc (.cells #[.int .i64 0, .int .i64 0, .slice Ax 0 cx] 52) := ⟨_, rfl⟩
      rw [← hW19]
      have hb20 : Below w15.heap.size w15 W18 := by rw [hW19]; exact bel_alloc (Below.refl _ _) _
      have Nx := Lib.hid (show W18.heap[w15.heap.size]? = some (.cells #[.int .i64 0, .int .i64 0, .slice Ax 0 cx] 52 (0, 0)) by rw [hW19]; exact heap_at (w15) _ (w15.heap.size) (by simp))
      clear hW19
      have Z := Lib.hid (heap_below Blq.out hb20)
      clear Blq
      have Blq := Z
      clear Z
      have Z := Lib.hid (heap_below Blc.out hb20)
      clear Blc
      have Blc := Z
      clear Z
      have Z := Lib.hid (heap_below Bla.out hb20)
      clear Bla
      have Bla := Z
      clear Z
      have Z := Lib.hid (heap_below Blb.out hb20)
      clear Blb
      have Blb := Z
      clear Z
      have Z := Lib.hid (heap_below Bld.out hb20)
      clear Bld
      have Bld := Z
      clear Z
      have Z := Lib.hid (Row.below R1.out hb20)
      clear R1
      have R1 := Z
      clear Z
      have BB21 := Lib.hid (bThen BB17.out hb20)
      clear hb20
      have Blx := Nx
      clear Nx
      have zq := blk_lt Blq.out
      have xq0 := cellsAt Blq.out 0
      have xq1 := cellsAt Blq.out 1
      have xq2 := cellsAt Blq.out 2
      have fq := frozAt Blq.out
      simp at xq0 xq1 xq2
      have zb := blk_lt Blb.out
      have xb0 := cellsAt Blb.out 0
      have xb1 := cellsAt Blb.out 1
      have xb2 := cellsAt Blb.out 2
      have xb3 := cellsAt Blb.out 3
      have fb := frozAt Blb.out
      simp at xb0 xb1 xb2 xb3
      go_wp2_with fail
      have HT := ctake_any cg nn [⟨cg, cn, nn, cb⟩] ⟨cg, cn, nn + 1, cb⟩ ⟨HCS.out, by simp; omega⟩ (.slice A1 1 c1) W18 R1.out (by simp) (by intro y hy; simp at hy; subst hy; exact ⟨HCS.out, by simp; omega⟩)
      rw [take_other (c := ⟨cg, cn, nn, cb⟩) HRI.out (by unfold fitB; simp; intros; omega)] at HT
      refine HT.mono ?_
      rintro e w22 ⟨vy, rfl, hr, hb23⟩
      obtain ⟨Ay, cy, rfl, -⟩ := hr
      clear HT
      clear zq fq xq0 xq1 xq2 zb fb xb0 xb1 xb2 xb3
      have Z := Lib.hid (heap_below Blq.out hb23)
      clear Blq
      have Blq := Z
      clear Z
      have Z := Lib.hid (heap_below Blc.out hb23)
      clear Blc
      have Blc := Z
      clear Z
      have Z := Lib.hid (heap_below Bla.out hb23)
      clear Bla
      have Bla := Z
      clear Z
      have Z := Lib.hid (heap_below Blb.out hb23)
      clear Blb
      have Blb := Z
      clear Z
      have Z := Lib.hid (heap_below Bld.out hb23)
      clear Bld
      have Bld := Z
      clear Z
      have Z := Lib.hid (heap_below Blx.out hb23)
      clear Blx
      have Blx := Z
      clear Z
      have Z := Lib.hid (Row.below R1.out hb23)
      clear R1
      have R1 := Z
      clear Z
      have BB24 := Lib.hid (bThen BB21.out hb23)
      clear hb23
      go_upto_region 18 with fail
      obtain ⟨W25, hW26⟩ : ∃ X, X = (w22).alloc (.cells #[.int .i64 0, .int .i64 0, .slice Ay 0 cy] 52) := ⟨_, rfl⟩
      rw [← hW26]
      have hb27 : Below w22.heap.size w22 W25 := by rw [hW26]; exact bel_alloc (Below.refl _ _) _
      have Ny := Lib.hid (show W25.heap[w22.heap.size]? = some (.cells #[.int .i64 0, .int .i64 0, .slice Ay 0 cy] 52 (0, 0)) by rw [hW26]; exact heap_at (w22) _ (w22.heap.size) (by simp))
      clear hW26
      have Z := Lib.hid (heap_below Blq.out hb27)
      clear Blq
      have Blq := Z
      clear Z
      have Z := Lib.hid (heap_below Blc.out hb27)
      clear Blc
      have Blc := Z
      clear Z
      have Z := Lib.hid (heap_below Bla.out hb27)
      clear Bla
      have Bla := Z
      clear Z
      have Z := Lib.hid (heap_below Blb.out hb27)
      clear Blb
      have Blb := Z
      clear Z
      have Z := Lib.hid (heap_below Bld.out hb27)
      clear Bld
      have Bld := Z
      clear Z
      have Z := Lib.hid (heap_below Blx.out hb27)
      clear Blx
      have Blx := Z
      clear Z
      have Z := Lib.hid (Row.below R1.out hb27)
      clear R1
      have R1 := Z
      clear Z
      have BB28 := Lib.hid (bThen BB24.out hb27)
      clear hb27
      have Bly := Ny
      clear Ny
      have zq := blk_lt Blq.out
      have xq0 := cellsAt Blq.out 0
      have xq1 := cellsAt Blq.out 1
      have xq2 := cellsAt Blq.out 2
      have fq := frozAt Blq.out
      simp at xq0 xq1 xq2
      have zd := blk_lt Bld.out
      have xd0 := cellsAt Bld.out 0
      have xd1 := cellsAt Bld.out 1
      have xd2 := cellsAt Bld.out 2
      have xd3 := cellsAt Bld.out 3
      have fd := frozAt Bld.out
      simp at xd0 xd1 xd2 xd3
      go_wp2_with fail
      have HT := ctake_any cg nn [⟨cg, cn, nn, cb⟩] ⟨cg, cn, nn, more⟩ ⟨hm, by simp; omega⟩ (.slice A1 1 c1) W25 R1.out (by simp) (by intro y hy; simp at hy; subst hy; exact ⟨HCS.out, by simp; omega⟩)
      have hsm := take_same (c := ⟨cg, cn, nn, cb⟩) (b := more) HRI.out rfl HMAY.out
      obtain ⟨R, hR⟩ : ∃ R, takeC cg nn [⟨cg, cn, nn, cb⟩] ⟨cg, cn, nn, more⟩ = R := ⟨_, rfl⟩
      simp only at hsm
      rw [hR] at HT hsm
      have HSM := Lib.hid hsm.1
      clear hR hsm
      refine HT.mono ?_
      rintro e w29 ⟨vz, rfl, hr, hb30⟩
      obtain ⟨Az, cz, rfl, -⟩ := hr
      clear HT
      clear zq fq xq0 xq1 xq2 zd fd xd0 xd1 xd2 xd3
      have Z := Lib.hid (heap_below Blq.out hb30)
      clear Blq
      have Blq := Z
      clear Z
      have Z := Lib.hid (heap_below Blc.out hb30)
      clear Blc
      have Blc := Z
      clear Z
      have Z := Lib.hid (heap_below Bla.out hb30)
      clear Bla
      have Bla := Z
      clear Z
      have Z := Lib.hid (heap_below Blb.out hb30)
      clear Blb
      have Blb := Z
      clear Z
      have Z := Lib.hid (heap_below Bld.out hb30)
      clear Bld
      have Bld := Z
      clear Z
      have Z := Lib.hid (heap_below Blx.out hb30)
      clear Blx
      have Blx := Z
      clear Z
      have Z := Lib.hid (heap_below Bly.out hb30)
      clear Bly
      have Bly := Z
      clear Z
      have Z := Lib.hid (Row.below R1.out hb30)
      clear R1
      have R1 := Z
      clear Z
      have BB31 := Lib.hid (bThen BB28.out hb30)
      clear hb30
      go_upto_region 19 with fail
      obtain ⟨W32, hW33⟩ : ∃ X, X = (w29).alloc (.cells #[.int .i64 R.g, .int .i64 R.o, .slice Az R.l.length cz] 52) := ⟨_, rfl⟩
      rw [← hW33]
      have hb34 : Below w29.heap.size w29 W32 := by rw [hW33]; exact bel_alloc (Below.refl _ _) _
      have Nz := Lib.hid (show W32.heap[w29.heap.size]? = some (.cells #[.int .i64 R.g, .int .i64 R.o, .slice Az R.l.length cz] 52 (0, 0)) by rw [hW33]; exact heap_at (w29) _ (w29.heap.size) (by simp))
      clear hW33
      have Z := Lib.hid (heap_below Blq.out hb34)
      clear Blq
      have Blq := Z
      clear Z
      have Z := Lib.hid (heap_below Blc.out hb34)
      clear Blc
      have Blc := Z
      clear Z
      have Z := Lib.hid (heap_below Bla.out hb34)
      clear Bla
      have Bla := Z
      clear Z
      have Z := Lib.hid (heap_below Blb.out hb34)
      clear Blb
      have Blb := Z
      clear Z
      have Z := Lib.hid (heap_below Bld.out hb34)
      clear Bld
      have Bld := Z
      clear Z
      have Z := Lib.hid (heap_below Blx.out hb34)
      clear Blx
      have Blx := Z
      clear Z
      have Z := Lib.hid (heap_below Bly.out hb34)
      clear Bly
      have Bly := Z
      clear Z
      have Z := Lib.hid (Row.below R1.out hb34)
      clear R1
      have R1 := Z
      clear Z
      have BB35 := Lib.hid (bThen BB31.out hb34)
      clear hb34
      have Blz := Nz
      clear Nz
      go_wp2_with fail
      refine (calive_any _).mono ?_
      rintro e w36 ⟨rfl, hb37⟩
      have Z := Lib.hid (heap_below Blq.out hb37)
      clear Blq
      have Blq := Z
      clear Z
      have Z := Lib.hid (heap_below Blc.out hb37)
      clear Blc
      have Blc := Z
      clear Z
      have Z := Lib.hid (heap_below Bla.out hb37)
      clear Bla
      have Bla := Z
      clear Z
      have Z := Lib.hid (heap_below Blb.out hb37)
      clear Blb
      have Blb := Z
      clear Z
      have Z := Lib.hid (heap_below Bld.out hb37)
      clear Bld
      have Bld := Z
      clear Z
      have Z := Lib.hid (heap_below Blx.out hb37)
      clear Blx
      have Blx := Z
      clear Z
      have Z := Lib.hid (heap_below Bly.out hb37)
      clear Bly
      have Bly := Z
      clear Z
      have Z := Lib.hid (heap_below Blz.out hb37)
      clear Blz
      have Blz := Z
      clear Z
      have Z := Lib.hid (Row.below R1.out hb37)
      clear R1
      have R1 := Z
      clear Z
      have BB38 := Lib.hid (bThen BB35.out hb37)
      clear hb37
      have zc := blk_lt Blc.out
      have xc0 := cellsAt Blc.out 0
      have xc1 := cellsAt Blc.out 1
      have xc2 := cellsAt Blc.out 2
      have xc3 := cellsAt Blc.out 3
      have fc := frozAt Blc.out
      simp at xc0 xc1 xc2 xc3
      obtain ⟨be, hbe⟩ : ∃ b, (more.toList == cb.toList) = b := ⟨_, rfl⟩
      have hsm := HSM.out
      rw [hbe] at hsm
      obtain ⟨er, her⟩ : ∃ e, R.er = e := ⟨_, rfl⟩
      rw [her] at hsm ⊢
      cases be with
      | true =>
        have hsm2 : er = 0 := by simpa using hsm
        clear hsm
        subst hsm2
        go_wp2_with fail
        go_ret
        exact ⟨rfl, BB38.out⟩
      | false =>
        have hsm2 : er = 200 := by simpa using hsm
        clear hsm
        subst hsm2
        go_wp2_with fail
        go_ret
        exact ⟨rfl, BB38.out⟩
  · have t3 : decide (3000 < (s.size : Int)) = false := by simp; omega
    obtain ⟨S, rfl⟩ : ∃ S, S = s := ⟨_, rfl⟩
    have hS : S.size ≤ 3000 := by omega
    have hgb : (decide (0 ≤ G) && decide (G < 32)) = true := by simp; omega
    obtain ⟨nn, hnn⟩ : ∃ n, nOf S = n := ⟨_, rfl⟩
    have hn1 : 1 ≤ nn := by rw [← hnn]; unfold nOf; omega
    have hn12 : nn ≤ 12 := by rw [← hnn]; unfold nOf; omega
    have HNN := Lib.hid hnn
    clear hnn
    have hr1 : k.tmod nn < nn := Int.tmod_lt_of_pos k (by omega)
    have hr2 : -(nn : Int) < k.tmod nn := Int.lt_tmod_of_pos k (by omega)
    have hww : wrap64 (k.tmod nn + nn) = k.tmod nn + nn := IntWalk.wrap64_in _ (by omega)
    obtain ⟨K, hK⟩ : ∃ K : Nat, (k.tmod nn + nn).tmod nn = (K : Int) := ⟨((k.tmod nn + nn).tmod nn).toNat, by have := Int.tmod_nonneg (nn : Int) (show 0 ≤ k.tmod nn + nn by omega); omega⟩
    have hKN : K < nn := by have := Int.tmod_lt_of_pos (k.tmod nn + nn) (show (0 : Int) < nn by omega); omega
    have hKi : (K : Int) < (nn : Int) := by omega
    have hK0 : (0 : Int) ≤ (K : Int) := by omega
    have hnz : ¬ ((nn : Int) = 0) := by omega
    have hnz2 : ((nn : Int) == 0) = false := by simp; omega
    have hnz3 : decide ((nn : Int) = 0) = false := by simp; omega
    go_wp2_with fail
    refine (split_yes G S _ hG0 (by omega) (by omega)).mono ?_
    rintro e ws ⟨vl, rfl, hrow, hb1⟩
    have RL := Lib.hid hrow
    obtain ⟨Al, cl, rfl, -⟩ := hrow
    rw [splitL_len, HNN.out] at RL ⊢
    have HB0 := Lib.hid hb1
    clear hb1
    go_wp2_with fail
    refine (new_any G _ true hgb).mono ?_
    rintro e w1 ⟨rfl, hb2⟩
    have Z := Lib.hid (Row.below RL.out hb2)
    clear RL
    have RL := Z
    clear Z
    have BB3 := Lib.hid (bThen HB0.out hb2)
    clear hb2
    rw [if_pos rfl, if_pos rfl]
    go_upto_region 6 with fail
    have HGS := Lib.hid BB3.out.size
    obtain ⟨W4, hW5⟩ : ∃ X, X = (w1).alloc (.cells #[.int .i64 G, .int .i64 0, .slice none 0 0] 52) := ⟨_, rfl⟩
    rw [← hW5]
    have hb6 : Below w1.heap.size w1 W4 := by rw [hW5]; exact bel_alloc (Below.refl _ _) _
    have Nq := Lib.hid (show W4.heap[w1.heap.size]? = some (.cells #[.int .i64 G, .int .i64 0, .slice none 0 0] 52 (0, 0)) by rw [hW5]; exact heap_at (w1) _ (w1.heap.size) (by simp))
    have hsq : W4.heap.size = w1.heap.size + 1 := by rw [hW5]; simp
    clear hW5
    have Z := Lib.hid (Row.below RL.out hb6)
    clear RL
    have RL := Z
    clear Z
    have BB7 := Lib.hid (bThen BB3.out hb6)
    clear hb6
    have Blq := Nq
    clear Nq
    have HSQ := Lib.hid hsq
    clear hsq
    have zq := blk_lt Blq.out
    have xq0 := cellsAt Blq.out 0
    have xq1 := cellsAt Blq.out 1
    have xq2 := cellsAt Blq.out 2
    have fq := frozAt Blq.out
    simp at xq0 xq1 xq2
    obtain ⟨c, hc⟩ : ∃ c, ckOf G nn S K = c := ⟨_, rfl⟩
    have hL : (splitL G S)[K]? = some c := by unfold splitL; rw [HNN.out, List.getElem?_map, List.getElem?_range hKN, ← hc]; rfl
    have HMAY := Lib.hid (show mayB c = true by have := ck_may (g := G) (s := S) (K := K) hG0 (by omega) (by omega) (by rw [HNN.out]; exact hKN); rw [HNN.out, hc] at this; exact this)
    have HCG := Lib.hid (show c.g = G by rw [← hc]; rfl)
    have HCO := Lib.hid (show c.of_ = (nn : Int) by rw [← hc]; rfl)
    have HCS := Lib.hid (show c.b.size ≤ 9223372036854775807 by rw [← hc]; unfold ckOf; simp; omega)
    obtain ⟨b', o', c', e', hc', hb', hX⟩ := RL.out.at_ hL
    injection e' with e1 e2 e3
    clear e2
    subst e1 e3
    have x0 := hX 0 _ rfl
    have x1 := hX 1 _ rfl
    have x2 := hX 2 _ rfl
    have x3 := hX 3 _ rfl
    clear hX hL hc
    obtain ⟨cg, cn, co, cb⟩ := c
    simp only [Nat.add_zero] at x0 x1 x2 x3 HCS
    obtain rfl : cg = G := HCG.out
    obtain rfl : co = (nn : Int) := HCO.out
    have hti : ((K : Int)).toNat = K := by simp
    go_upto_region 9 with fail
    clear x0 x1 x2 x3 hww hK
    obtain ⟨W8, hW9⟩ : ∃ X, X = (W4).alloc (.cells #[.int .i64 cg, .int .i64 cn, .int .i64 nn, .string cb] 56) := ⟨_, rfl⟩
    rw [← hW9]
    have hb10 : Below W4.heap.size W4 W8 := by rw [hW9]; exact bel_alloc (Below.refl _ _) _
    have Nc := Lib.hid (show W8.heap[W4.heap.size]? = some (.cells #[.int .i64 cg, .int .i64 cn, .int .i64 nn, .string cb] 56 (0, 0)) by rw [hW9]; exact heap_at (W4) _ (W4.heap.size) (by simp))
    clear hW9
    have Z := Lib.hid (heap_below Blq.out hb10)
    clear Blq
    have Blq := Z
    clear Z
    have Z := Lib.hid (Row.below RL.out hb10)
    clear RL
    have RL := Z
    clear Z
    have BB11 := Lib.hid (bThen BB7.out hb10)
    clear hb10
    have Blc := Nc
    clear Nc
    clear zq fq xq0 xq1 xq2
    have zq := blk_lt Blq.out
    have xq0 := cellsAt Blq.out 0
    have xq1 := cellsAt Blq.out 1
    have xq2 := cellsAt Blq.out 2
    have fq := frozAt Blq.out
    simp at xq0 xq1 xq2
    have zc := blk_lt Blc.out
    have xc0 := cellsAt Blc.out 0
    have xc1 := cellsAt Blc.out 1
    have xc2 := cellsAt Blc.out 2
    have xc3 := cellsAt Blc.out 3
    have fc := frozAt Blc.out
    simp at xc0 xc1 xc2 xc3
    go_wp2_with fail
    have HGR := Lib.hid (show groupB cg = true from hgb)
    have HT := ctake_any cg 0 [] ⟨cg, cn, nn, cb⟩ ⟨HCS.out, by simp; omega⟩ (.slice none 0 0) W8 Row.none_ (by simp) (by simp)
    rw [take_first HGR.out HMAY.out rfl] at HT
    refine HT.mono ?_
    rintro e w12 ⟨v1, rfl, hr, hb13⟩
    have R1 := Lib.hid hr
    obtain ⟨A1, c1, rfl, -⟩ := hr
    clear HT
    clear zq fq xq0 xq1 xq2 zc fc xc0 xc1 xc2 xc3
    have Z := Lib.hid (heap_below Blq.out hb13)
    clear Blq
    have Blq := Z
    clear Z
    have Z := Lib.hid (heap_below Blc.out hb13)
    clear Blc
    have Blc := Z
    clear Z
    have BB14 := Lib.hid (bThen BB11.out hb13)
    clear hb13
    have zq := blk_lt Blq.out
    have xq0 := cellsAt Blq.out 0
    have xq1 := cellsAt Blq.out 1
    have xq2 := cellsAt Blq.out 2
    have fq := frozAt Blq.out
    simp at xq0 xq1 xq2
    go_upto_region 10 with fail
    have N1 := Lib.hid (setG3 Blq.out (.int .i64 cg) (.int .i64 nn) (.slice A1 1 c1))
    have N2 := Lib.hid (keepG Blq.out (.int .i64 cg) (.int .i64 nn) (.slice A1 1 c1) R1.out)
    have N3 := Lib.hid ((Below.heap_block3 w12 w1.heap.size W4.heap.size (by have := HSQ.out; omega) (.int .i64 cg) (.int .i64 nn) (.slice A1 1 c1)).trans Blc.out)
    have N4 := Lib.hid (belG3 BB14.out (g := w1.heap.size) HGS.out (.int .i64 cg) (.int .i64 nn) (.slice A1 1 c1))
    clear zq fq xq0 xq1 xq2
    clear Blq Blc R1 BB14
    generalize (((w12).setCell ⟨w1.heap.size, 0, none⟩ (.int .i64 cg)).setCell ⟨w1.heap.size, 1, none⟩ (.int .i64 nn)).setCell ⟨w1.heap.size, 2, none⟩ (.slice A1 1 c1) = XX at *
    have Blq := N1
    have R1 := N2
    have Blc := N3
    have BXX := N4
    clear N1 N2 N3 N4
    have zq := blk_lt Blq.out
    have xq0 := cellsAt Blq.out 0
    have xq1 := cellsAt Blq.out 1
    have xq2 := cellsAt Blq.out 2
    have fq := frozAt Blq.out
    simp at xq0 xq1 xq2
    have zc := blk_lt Blc.out
    have xc0 := cellsAt Blc.out 0
    have xc1 := cellsAt Blc.out 1
    have xc2 := cellsAt Blc.out 2
    have xc3 := cellsAt Blc.out 3
    have fc := frozAt Blc.out
    simp at xc0 xc1 xc2 xc3
    go_upto_region 12 with fail
    have RX := R1
    have hzqx := zq
    have hzcx := zc
    have zc1 : W4.heap.size < XX.heap.size + 1 := by omega
    have zc2 : W4.heap.size < XX.heap.size + 1 + 1 := by omega
    have zc3 : W4.heap.size < XX.heap.size + 2 := by omega
    go_cut [15, 16, 17] (fun p q r W => ApRel XX #[.int .i64 cg, .int .i64 cn, .int .i64 nn, .string cb] p q r W)
    case first =>
      go_region
      all_goals
        go_wp2_with fail
        go_meet
        with_reducible refine ap_rel ?_ ?_ ?_ ?_ ?_ ?_ <;> omega
    case rest =>
      clear zq fq xq0 xq1 xq2 zc fc xc0 xc1 xc2 xc3
      obtain ⟨pa, pb, pc, rfl, rfl, rfl, hab, hac, hbc, ha0, hb0, hc0, hba, hbb, hbcc, hbel⟩ := hcut
      clear zc1 zc2 zc3
      have Z1 := Lib.hid (heap_below Blq.out hbel)
      clear Blq
      have Blq := Z1
      clear Z1
      have Z1 := Lib.hid (heap_below Blc.out hbel)
      clear Blc
      have Blc := Z1
      clear Z1
      have Z1 := Lib.hid (R1.out.below hbel)
      clear R1
      have R1 := Z1
      clear Z1
      have hqa : w1.heap.size < XX.heap.size := by first | exact hzqx | assumption
      have hca : W4.heap.size < XX.heap.size := by first | exact hzcx | assumption
      have BXY := Lib.hid (bThen BXX.out hbel)
      have xa0 := cellsAt hba 0
      have xb2 := cellsAt hbb 2
      have xc3 := cellsAt hbcc 3
      have za := blk_lt hba
      have zb := blk_lt hbb
      have zc := blk_lt hbcc
      have fa := frozAt hba
      have fb := frozAt hbb
      have fc := frozAt hbcc
      simp at xa0 xb2 xc3
      have hba1 : pb ≠ pa := fun e => hab e.symm
      have hca1 : pc ≠ pa := fun e => hac e.symm
      have hcb1 : pc ≠ pb := fun e => hbc e.symm
      go_upto_region 16 with fail
      have Nq := Lib.hid ((Below.heap_setCell _ ⟨pc, 3, none⟩ (.string more) w1.heap.size (by show w1.heap.size ≠ pc; omega)).trans ((Below.heap_setCell _ ⟨pb, 2, none⟩ (.int .i64 ((nn : Int) + 1)) w1.heap.size (by show w1.heap.size ≠ pb; omega)).trans ((Below.heap_setCell wc ⟨pa, 0, none⟩ (.int .i64 (cg + 1)) w1.heap.size (by show w1.heap.size ≠ pa; omega)).trans Blq.out)))
      have Nc := Lib.hid ((Below.heap_setCell _ ⟨pc, 3, none⟩ (.string more) W4.heap.size (by show W4.heap.size ≠ pc; omega)).trans ((Below.heap_setCell _ ⟨pb, 2, none⟩ (.int .i64 ((nn : Int) + 1)) W4.heap.size (by show W4.heap.size ≠ pb; omega)).trans ((Below.heap_setCell wc ⟨pa, 0, none⟩ (.int .i64 (cg + 1)) W4.heap.size (by show W4.heap.size ≠ pa; omega)).trans Blc.out)))
      have Na := Lib.hid ((Below.heap_setCell _ ⟨pc, 3, none⟩ (.string more) pa (by show pa ≠ pc; exact hac)).trans ((Below.heap_setCell _ ⟨pb, 2, none⟩ (.int .i64 ((nn : Int) + 1)) pa (by show pa ≠ pb; exact hab)).trans (blk_set hba 0 (.int .i64 (cg + 1)))))
      have Nb := Lib.hid ((Below.heap_setCell _ ⟨pc, 3, none⟩ (.string more) pb (by show pb ≠ pc; exact hbc)).trans (blk_set ((Below.heap_setCell wc ⟨pa, 0, none⟩ (.int .i64 (cg + 1)) pb (by show pb ≠ pa; exact hba1)).trans hbb) 2 (.int .i64 ((nn : Int) + 1))))
      have Nd := Lib.hid (blk_set ((Below.heap_setCell _ ⟨pb, 2, none⟩ (.int .i64 ((nn : Int) + 1)) pc (by show pc ≠ pb; exact hcb1)).trans ((Below.heap_setCell wc ⟨pa, 0, none⟩ (.int .i64 (cg + 1)) pc (by show pc ≠ pa; exact hca1)).trans hbcc)) 3 (.string more))
      have hX0 := BXX.out.size
      have NB := Lib.hid (((BXY.out.setCell (p := ⟨pa, 0, none⟩) (by show w.heap.size ≤ pa; omega) (.int .i64 (cg + 1))).setCell (p := ⟨pb, 2, none⟩) (by show w.heap.size ≤ pb; omega) (.int .i64 ((nn : Int) + 1))).setCell (p := ⟨pc, 3, none⟩) (by show w.heap.size ≤ pc; omega) (.string more))
      have hbx := hbel
      have NX := Lib.hid (((hbel.setCell (p := ⟨pa, 0, none⟩) ha0 (.int .i64 (cg + 1))).setCell (p := ⟨pb, 2, none⟩) hb0 (.int .i64 ((nn : Int) + 1))).setCell (p := ⟨pc, 3, none⟩) hc0 (.string more))
      clear xa0 xb2 xc3 za zb zc fa fb fc Blq Blc R1 BXY hba hbb hbcc hbel hbx
      generalize ((wc.setCell ⟨pa, 0, none⟩ (.int .i64 (cg + 1))).setCell ⟨pb, 2, none⟩ (.int .i64 ((nn : Int) + 1))).setCell ⟨pc, 3, none⟩ (.string more) = W7 at *
      have Blq := Nq
      have Blc := Nc
      have Bla := Lib.hid (show W7.heap[pa]? = some (.cells #[.int .i64 (cg + 1), .int .i64 cn, .int .i64 nn, .string cb] 56 (0, 0)) by simpa using Na.out)
      have Blb := Lib.hid (show W7.heap[pb]? = some (.cells #[.int .i64 cg, .int .i64 cn, .int .i64 ((nn : Int) + 1), .string cb] 56 (0, 0)) by simpa using Nb.out)
      have Bld := Lib.hid (show W7.heap[pc]? = some (.cells #[.int .i64 cg, .int .i64 cn, .int .i64 nn, .string more] 56 (0, 0)) by simpa using Nd.out)
      have R1 := Lib.hid (RX.out.below NX.out)
      clear Nq Nc Na Nb Nd RX
      have HRI := Lib.hid (right_one (c := ⟨cg, cn, nn, cb⟩) HGR.out HMAY.out rfl (by simp; omega))
      have zq := blk_lt Blq.out
      have xq0 := cellsAt Blq.out 0
      have xq1 := cellsAt Blq.out 1
      have xq2 := cellsAt Blq.out 2
      have fq := frozAt Blq.out
      simp at xq0 xq1 xq2
      have za := blk_lt Bla.out
      have xa0 := cellsAt Bla.out 0
      have xa1 := cellsAt Bla.out 1
      have xa2 := cellsAt Bla.out 2
      have xa3 := cellsAt Bla.out 3
      have fa := frozAt Bla.out
      simp at xa0 xa1 xa2 xa3
      go_wp2_with fail
      have HT := ctake_any cg nn [⟨cg, cn, nn, cb⟩] ⟨cg + 1, cn, nn, cb⟩ ⟨HCS.out, by simp; omega⟩ (.slice A1 1 c1) W7 R1.out (by simp) (by intro y hy; simp at hy; subst hy; exact ⟨HCS.out, by simp; omega⟩)
      rw [take_other (c := ⟨cg, cn, nn, cb⟩) HRI.out (by unfold fitB; simp; intros; omega)] at HT
      refine HT.mono ?_
      rintro e w15 ⟨vx, rfl, hr, hb16⟩
      obtain ⟨Ax, cx, rfl, -⟩ := hr
      clear HT
      clear zq fq xq0 xq1 xq2 za fa xa0 xa1 xa2 xa3
      have Z := Lib.hid (heap_below Blq.out hb16)
      clear Blq
      have Blq := Z
      clear Z
      have Z := Lib.hid (heap_below Blc.out hb16)
      clear Blc
      have Blc := Z
      clear Z
      have Z := Lib.hid (heap_below Bla.out hb16)
      clear Bla
      have Bla := Z
      clear Z
      have Z := Lib.hid (heap_below Blb.out hb16)
      clear Blb
      have Blb := Z
      clear Z
      have Z := Lib.hid (heap_below Bld.out hb16)
      clear Bld
      have Bld := Z
      clear Z
      have Z := Lib.hid (Row.below R1.out hb16)
      clear R1
      have R1 := Z
      clear Z
      have BB17 := Lib.hid (bThen NB.out hb16)
      clear hb16
      go_upto_region 17 with fail
      obtain ⟨W18, hW19⟩ : ∃ X, X = (w15).alloc (.cells #[.int .i64 0, .int .i64 0, .slice Ax 0 cx] 52) := ⟨_, rfl⟩
      rw [← hW19]
      have hb20 : Below w15.heap.size w15 W18 := by rw [hW19]; exact bel_alloc (Below.refl _ _) _
      have Nx := Lib.hid (show W18.heap[w15.heap.size]? = some (.cells #[.int .i64 0, .int .i64 0, .slice Ax 0 cx] 52 (0, 0)) by rw [hW19]; exact heap_at (w15) _ (w15.heap.size) (by simp))
      clear hW19
      have Z := Lib.hid (heap_below Blq.out hb20)
      clear Blq
      have Blq := Z
      clear Z
      have Z := Lib.hid (heap_below Blc.out hb20)
      clear Blc
      have Blc := Z
      clear Z
      have Z := Lib.hid (heap_below Bla.out hb20)
      clear Bla
      have Bla := Z
      clear Z
      have Z := Lib.hid (heap_below Blb.out hb20)
      clear Blb
      have Blb := Z
      clear Z
      have Z := Lib.hid (heap_below Bld.out hb20)
      clear Bld
      have Bld := Z
      clear Z
      have Z := Lib.hid (Row.below R1.out hb20)
      clear R1
      have R1 := Z
      clear Z
      have BB21 := Lib.hid (bThen BB17.out hb20)
      clear hb20
      have Blx := Nx
      clear Nx
      have zq := blk_lt Blq.out
      have xq0 := cellsAt Blq.out 0
      have xq1 := cellsAt Blq.out 1
      have xq2 := cellsAt Blq.out 2
      have fq := frozAt Blq.out
      simp at xq0 xq1 xq2
      have zb := blk_lt Blb.out
      have xb0 := cellsAt Blb.out 0
      have xb1 := cellsAt Blb.out 1
      have xb2 := cellsAt Blb.out 2
      have xb3 := cellsAt Blb.out 3
      have fb := frozAt Blb.out
      simp at xb0 xb1 xb2 xb3
      go_wp2_with fail
      have HT := ctake_any cg nn [⟨cg, cn, nn, cb⟩] ⟨cg, cn, nn + 1, cb⟩ ⟨HCS.out, by simp; omega⟩ (.slice A1 1 c1) W18 R1.out (by simp) (by intro y hy; simp at hy; subst hy; exact ⟨HCS.out, by simp; omega⟩)
      rw [take_other (c := ⟨cg, cn, nn, cb⟩) HRI.out (by unfold fitB; simp; intros; omega)] at HT
      refine HT.mono ?_
      rintro e w22 ⟨vy, rfl, hr, hb23⟩
      obtain ⟨Ay, cy, rfl, -⟩ := hr
      clear HT
      clear zq fq xq0 xq1 xq2 zb fb xb0 xb1 xb2 xb3
      have Z := Lib.hid (heap_below Blq.out hb23)
      clear Blq
      have Blq := Z
      clear Z
      have Z := Lib.hid (heap_below Blc.out hb23)
      clear Blc
      have Blc := Z
      clear Z
      have Z := Lib.hid (heap_below Bla.out hb23)
      clear Bla
      have Bla := Z
      clear Z
      have Z := Lib.hid (heap_below Blb.out hb23)
      clear Blb
      have Blb := Z
      clear Z
      have Z := Lib.hid (heap_below Bld.out hb23)
      clear Bld
      have Bld := Z
      clear Z
      have Z := Lib.hid (heap_below Blx.out hb23)
      clear Blx
      have Blx := Z
      clear Z
      have Z := Lib.hid (Row.below R1.out hb23)
      clear R1
      have R1 := Z
      clear Z
      have BB24 := Lib.hid (bThen BB21.out hb23)
      clear hb23
      go_upto_region 18 with fail
      obtain ⟨W25, hW26⟩ : ∃ X, X = (w22).alloc (.cells #[.int .i64 0, .int .i64 0, .slice Ay 0 cy] 52) := ⟨_, rfl⟩
      rw [← hW26]
      have hb27 : Below w22.heap.size w22 W25 := by rw [hW26]; exact bel_alloc (Below.refl _ _) _
      have Ny := Lib.hid (show W25.heap[w22.heap.size]? = some (.cells #[.int .i64 0, .int .i64 0, .slice Ay 0 cy] 52 (0, 0)) by rw [hW26]; exact heap_at (w22) _ (w22.heap.size) (by simp))
      clear hW26
      have Z := Lib.hid (heap_below Blq.out hb27)
      clear Blq
      have Blq := Z
      clear Z
      have Z := Lib.hid (heap_below Blc.out hb27)
      clear Blc
      have Blc := Z
      clear Z
      have Z := Lib.hid (heap_below Bla.out hb27)
      clear Bla
      have Bla := Z
      clear Z
      have Z := Lib.hid (heap_below Blb.out hb27)
      clear Blb
      have Blb := Z
      clear Z
      have Z := Lib.hid (heap_below Bld.out hb27)
      clear Bld
      have Bld := Z
      clear Z
      have Z := Lib.hid (heap_below Blx.out hb27)
      clear Blx
      have Blx := Z
      clear Z
      have Z := Lib.hid (Row.below R1.out hb27)
      clear R1
      have R1 := Z
      clear Z
      have BB28 := Lib.hid (bThen BB24.out hb27)
      clear hb27
      have Bly := Ny
      clear Ny
      have zq := blk_lt Blq.out
      have xq0 := cellsAt Blq.out 0
      have xq1 := cellsAt Blq.out 1
      have xq2 := cellsAt Blq.out 2
      have fq := frozAt Blq.out
      simp at xq0 xq1 xq2
      have zd := blk_lt Bld.out
      have xd0 := cellsAt Bld.out 0
      have xd1 := cellsAt Bld.out 1
      have xd2 := cellsAt Bld.out 2
      have xd3 := cellsAt Bld.out 3
      have fd := frozAt Bld.out
      simp at xd0 xd1 xd2 xd3
      go_wp2_with fail
      have HT := ctake_any cg nn [⟨cg, cn, nn, cb⟩] ⟨cg, cn, nn, more⟩ ⟨hm, by simp; omega⟩ (.slice A1 1 c1) W25 R1.out (by simp) (by intro y hy; simp at hy; subst hy; exact ⟨HCS.out, by simp; omega⟩)
      have hsm := take_same (c := ⟨cg, cn, nn, cb⟩) (b := more) HRI.out rfl HMAY.out
      obtain ⟨R, hR⟩ : ∃ R, takeC cg nn [⟨cg, cn, nn, cb⟩] ⟨cg, cn, nn, more⟩ = R := ⟨_, rfl⟩
      simp only at hsm
      rw [hR] at HT hsm
      have HSM := Lib.hid hsm.1
      clear hR hsm
      refine HT.mono ?_
      rintro e w29 ⟨vz, rfl, hr, hb30⟩
      obtain ⟨Az, cz, rfl, -⟩ := hr
      clear HT
      clear zq fq xq0 xq1 xq2 zd fd xd0 xd1 xd2 xd3
      have Z := Lib.hid (heap_below Blq.out hb30)
      clear Blq
      have Blq := Z
      clear Z
      have Z := Lib.hid (heap_below Blc.out hb30)
      clear Blc
      have Blc := Z
      clear Z
      have Z := Lib.hid (heap_below Bla.out hb30)
      clear Bla
      have Bla := Z
      clear Z
      have Z := Lib.hid (heap_below Blb.out hb30)
      clear Blb
      have Blb := Z
      clear Z
      have Z := Lib.hid (heap_below Bld.out hb30)
      clear Bld
      have Bld := Z
      clear Z
      have Z := Lib.hid (heap_below Blx.out hb30)
      clear Blx
      have Blx := Z
      clear Z
      have Z := Lib.hid (heap_below Bly.out hb30)
      clear Bly
      have Bly := Z
      clear Z
      have Z := Lib.hid (Row.below R1.out hb30)
      clear R1
      have R1 := Z
      clear Z
      have BB31 := Lib.hid (bThen BB28.out hb30)
      clear hb30
      go_upto_region 19 with fail
      obtain ⟨W32, hW33⟩ : ∃ X, X = (w29).alloc (.cells #[.int .i64 R.g, .int .i64 R.o, .slice Az R.l.length cz] 52) := ⟨_, rfl⟩
      rw [← hW33]
      have hb34 : Below w29.heap.size w29 W32 := by rw [hW33]; exact bel_alloc (Below.refl _ _) _
      have Nz := Lib.hid (show W32.heap[w29.heap.size]? = some (.cells #[.int .i64 R.g, .int .i64 R.o, .slice Az R.l.length cz] 52 (0, 0)) by rw [hW33]; exact heap_at (w29) _ (w29.heap.size) (by simp))
      clear hW33
      have Z := Lib.hid (heap_below Blq.out hb34)
      clear Blq
      have Blq := Z
      clear Z
      have Z := Lib.hid (heap_below Blc.out hb34)
      clear Blc
      have Blc := Z
      clear Z
      have Z := Lib.hid (heap_below Bla.out hb34)
      clear Bla
      have Bla := Z
      clear Z
      have Z := Lib.hid (heap_below Blb.out hb34)
      clear Blb
      have Blb := Z
      clear Z
      have Z := Lib.hid (heap_below Bld.out hb34)
      clear Bld
      have Bld := Z
      clear Z
      have Z := Lib.hid (heap_below Blx.out hb34)
      clear Blx
      have Blx := Z
      clear Z
      have Z := Lib.hid (heap_below Bly.out hb34)
      clear Bly
      have Bly := Z
      clear Z
      have Z := Lib.hid (Row.below R1.out hb34)
      clear R1
      have R1 := Z
      clear Z
      have BB35 := Lib.hid (bThen BB31.out hb34)
      clear hb34
      have Blz := Nz
      clear Nz
      go_wp2_with fail
      refine (calive_any _).mono ?_
      rintro e w36 ⟨rfl, hb37⟩
      have Z := Lib.hid (heap_below Blq.out hb37)
      clear Blq
      have Blq := Z
      clear Z
      have Z := Lib.hid (heap_below Blc.out hb37)
      clear Blc
      have Blc := Z
      clear Z
      have Z := Lib.hid (heap_below Bla.out hb37)
      clear Bla
      have Bla := Z
      clear Z
      have Z := Lib.hid (heap_below Blb.out hb37)
      clear Blb
      have Blb := Z
      clear Z
      have Z := Lib.hid (heap_below Bld.out hb37)
      clear Bld
      have Bld := Z
      clear Z
      have Z := Lib.hid (heap_below Blx.out hb37)
      clear Blx
      have Blx := Z
      clear Z
      have Z := Lib.hid (heap_below Bly.out hb37)
      clear Bly
      have Bly := Z
      clear Z
      have Z := Lib.hid (heap_below Blz.out hb37)
      clear Blz
      have Blz := Z
      clear Z
      have Z := Lib.hid (Row.below R1.out hb37)
      clear R1
      have R1 := Z
      clear Z
      have BB38 := Lib.hid (bThen BB35.out hb37)
      clear hb37
      have zc := blk_lt Blc.out
      have xc0 := cellsAt Blc.out 0
      have xc1 := cellsAt Blc.out 1
      have xc2 := cellsAt Blc.out 2
      have xc3 := cellsAt Blc.out 3
      have fc := frozAt Blc.out
      simp at xc0 xc1 xc2 xc3
      obtain ⟨be, hbe⟩ : ∃ b, (more.toList == cb.toList) = b := ⟨_, rfl⟩
      have hsm := HSM.out
      rw [hbe] at hsm
      obtain ⟨er, her⟩ : ∃ e, R.er = e := ⟨_, rfl⟩
      rw [her] at hsm ⊢
      cases be with
      | true =>
        have hsm2 : er = 0 := by simpa using hsm
        clear hsm
        subst hsm2
        go_wp2_with fail
        go_ret
        exact ⟨rfl, BB38.out⟩
      | false =>
        have hsm2 : er = 200 := by simpa using hsm
        clear hsm
        subst hsm2
        go_wp2_with fail
        go_ret
        exact ⟨rfl, BB38.out⟩
end Go.Proofs.Ytdanfeldbdooeaa
