/-
  WALKS of the top laws: a group that is written to a store.
-/
import Derived.Test.YtlboehpgpbchhaaGreatSavP
import Derived.Test.YtlboehpgpbchhaaGreatSavW1
import Derived.Test.YtlboehpgpbchhaaGreatGrpW3
import Derived.Test.YtlboehpgpbchhaaGreatGrpW5
import Derived.Test.YtlboehpgpbchhaaGreatTopW23
import Derived.Test.YtlboehpgpbchhaaGreatSavArgs
set_option linter.unusedVariables false
set_option linter.unusedSimpArgs false
namespace Go.Proofs.YtlboehpgpbchhaaGreat
open Go.RowKit

theorem noB_of {l : List UInt8} (h : 0 < l.length) : noB ⟨l.toArray⟩ = false := by
  rw [noB_size, decide_eq_false_iff_not]
  show ¬ l.toArray.size = 0
  simp
  intro e
  subst e
  simp at h
theorem grBs_pos (no m : Int) (l : List Pn) : 0 < (grBs no m l).length := by
  unfold grBs
  rw [List.length_append]
  simp [kNum, dig_length]
  omega
theorem gr_sz {no m : Int} {l : List Pn} (hwf : ∀ p ∈ l, p.Wf) : (if grR no m l = true then (⟨(grBs no m l).toArray⟩ : ByteArray) else ⟨#[]⟩).size ≤ 9223372036854775807 := by
  by_cases hgr : grR no m l = true
  · rw [if_pos hgr]
    obtain ⟨h1, h2, h3, h4, h5, h6⟩ := gr_pr hgr
    have HPO : ∀ p ∈ l, PnOk p := fun p hp => pm_ok (pr_pm h5 p hp) (hwf p hp)
    show (grBs no m l).toArray.size ≤ _
    have a1 := kNums_le (ns := [no, m, (l.length : Int)]) (by simp; omega)
    have a2 := pnBss_le HPO
    rw [List.size_toArray]
    unfold grBs
    rw [List.length_append]
    simp only [List.length_cons, List.length_nil] at a1
    omega
  · rw [if_neg hgr]
    decide
theorem two_len (a k : ByteArray) : (Sto.two a k).length = 2 := rfl
set_option maxRecDepth 100000 in
set_option maxHeartbeats 4000000 in
theorem saved_walk (W : World) (v1 v2 : Value) (no1 m1 : Int) (l1 : List Pn) (no2 m2 : Int) (l2 : List Pn) (left : Int) (hg1 : GIn W v1 no1 m1 l1) (hg2 : GIn W v2 no2 m2 l2) :
    Calls Tryz.prog 4 #[v1, v2, .int .i64 left] W fun e W' => e = .returned (.bool true) ∧ Below W.heap.size W W' := by
  obtain ⟨⟨u1, rfl, hr1⟩, hw1, hl1⟩ := hg1
  obtain ⟨⟨u2, rfl, hr2⟩, hw2, hl2⟩ := hg2
  have HR1 := Lib.hid hr1
  have HR2 := Lib.hid hr2
  have HP1 := Lib.hid (fun w h => gput_any no1 m1 l1 u1 w h hw1 hl1)
  have HP2 := Lib.hid (fun w h => gput_any no2 m2 l2 u2 w h hw2 hl2)
  have HAL := Lib.hid alive_any
  obtain ⟨q1, hq1⟩ : ∃ q, grR no1 m1 l1 = q := ⟨_, rfl⟩
  obtain ⟨q2, hq2⟩ : ∃ q, grR no2 m2 l2 = q := ⟨_, rfl⟩
  have HQ1 := Lib.hid hq1
  have HQ2 := Lib.hid hq2
  unfold GpTo at HP1 HP2
  rw [hq1] at HP1
  rw [hq2] at HP2
  have HW1 := Lib.hid hw1
  have HW2 := Lib.hid hw2
  obtain ⟨A1, c1, rfl, -, -⟩ := hr1
  obtain ⟨A2, c2, rfl, -, -⟩ := hr2
  obtain ⟨n1, hn1⟩ : ∃ n, l1.length = n := ⟨_, rfl⟩
  obtain ⟨n2, hn2⟩ : ∃ n, l2.length = n := ⟨_, rfl⟩
  have HN1 := Lib.hid hn1
  have HN2 := Lib.hid hn2
  rw [hn1] at HR1 HP1 ⊢
  rw [hn2] at HR2 HP2 ⊢
  clear hq1 hq2 hw1 hw2 hl1 hl2 hn1 hn2
  go_enter Tryz.func4, Tryz.ntmps4
  obtain ⟨s1, hs1⟩ : ∃ x, (if q1 = true then (⟨(grBs no1 m1 l1).toArray⟩ : ByteArray) else ⟨#[]⟩) = x := ⟨_, rfl⟩
  obtain ⟨s2, hs2⟩ : ∃ x, (if q2 = true then (⟨(grBs no2 m2 l2).toArray⟩ : ByteArray) else ⟨#[]⟩) = x := ⟨_, rfl⟩
  obtain ⟨e1, he1⟩ : ∃ x, (if q1 = true then (0 : Int) else 1) = x := ⟨_, rfl⟩
  obtain ⟨e2, he2⟩ : ∃ x, (if q2 = true then (0 : Int) else 1) = x := ⟨_, rfl⟩
  rw [hs1, he1] at HP1
  rw [hs2, he2] at HP2
  have HS1 := Lib.hid hs1
  have HS2 := Lib.hid hs2
  have hz1 : s1.size ≤ 9223372036854775807 := by have h := gr_sz (no := no1) (m := m1) HW1.out; rw [HQ1.out, HS1.out] at h; exact h
  have hz2 : s2.size ≤ 9223372036854775807 := by have h := gr_sz (no := no2) (m := m2) HW2.out; rw [HQ2.out, HS2.out] at h; exact h
  clear hs1 hs2
  go_wp2_with fail
  obtain ⟨X2, hX2⟩ : ∃ X, X = (W.alloc (.cells #[.int .i64 no1, .int .i64 m1, .slice A1 n1 c1] 56)).alloc (.cells #[.int .i64 no2, .int .i64 m2, .slice A2 n2 c2] 56) := ⟨_, rfl⟩
  have B2 := Lib.hid (show Below W.heap.size W X2 by rw [hX2]; exact bel_alloc (bel_alloc (Below.refl _ _) _) _)
  have N2 := Lib.hid (show X2.heap[W.heap.size + 1]? = some (.cells #[.int .i64 no2, .int .i64 m2, .slice A2 n2 c2] 56 (0, 0)) by rw [hX2]; exact heap_at _ _ _ (by simp))
  rw [← hX2]
  clear hX2
  refine (HP1.out _ (HR1.out.below B2.out)).mono ?_
  rintro e w3 ⟨rfl, hb3⟩
  have B3 := Lib.hid (bThen B2.out hb3)
  have N3 := Lib.hid (heap_below N2.out hb3)
  clear hb3 N2 B2 HP1
  have zn := blk_lt N3.out
  have y0 := cellsAt N3.out 0
  have y1 := cellsAt N3.out 1
  have y2 := cellsAt N3.out 2
  simp at y0 y1 y2
  go_wp2_with fail
  refine (HP2.out _ (HR2.out.below B3.out)).mono ?_
  rintro e w4 ⟨rfl, hb4⟩
  have BB := Lib.hid (bThen B3.out hb4)
  clear hb4 N3 B3 HP2 zn y0 y1 y2
  cases q1 with
  | false =>
    obtain rfl : e1 = 1 := by rw [← he1]; rfl
    clear he1 he2
    go_wp2_with (go_at_call 6; refine (HAL.out _).mono ?_; rintro e w5 ⟨rfl, hb5⟩)
    go_ret
    exact ⟨rfl, bThen BB.out hb5⟩
  | true =>
  obtain rfl : e1 = 0 := by rw [← he1]; rfl
  cases q2 with
  | false =>
    obtain rfl : e2 = 1 := by rw [← he2]; rfl
    clear he1 he2
    go_wp2_with (go_at_call 6; refine (HAL.out _).mono ?_; rintro e w5 ⟨rfl, hb5⟩)
    go_ret
    exact ⟨rfl, bThen BB.out hb5⟩
  | true =>
  obtain rfl : e2 = 0 := by rw [← he2]; rfl
  clear he1 he2
  by_cases h1 : 4096 < s1.size
  · have hd1 : decide ((4096 : Int) < (s1.size : Int)) = true := decide_eq_true (by omega)
    go_wp2_with (go_at_call 6; refine (HAL.out _).mono ?_; rintro e w5 ⟨rfl, hb5⟩)
    go_ret
    exact ⟨rfl, bThen BB.out hb5⟩
  by_cases h2 : 4096 < s2.size
  · have hd1 : decide ((4096 : Int) < (s1.size : Int)) = false := decide_eq_false (by omega)
    have hd2 : decide ((4096 : Int) < (s2.size : Int)) = true := decide_eq_true (by omega)
    go_wp2_with (go_at_call 6; refine (HAL.out _).mono ?_; rintro e w5 ⟨rfl, hb5⟩)
    go_ret
    exact ⟨rfl, bThen BB.out hb5⟩
  have hd1 : decide ((4096 : Int) < (s1.size : Int)) = false := decide_eq_false (by omega)
  have hd2 : decide ((4096 : Int) < (s2.size : Int)) = false := decide_eq_false (by omega)
  go_wp2_with (go_at_call 6; refine (HAL.out _).mono ?_; rintro e w5 ⟨rfl, hb5⟩)
  -- THE STORE
  have HG1 := Lib.hid (show Sto.By s1 from ⟨by omega, by rw [← HS1.out]; exact noB_of (grBs_pos _ _ _)⟩)
  have HG2 := Lib.hid (show Sto.By s2 from ⟨by omega, by rw [← HS2.out]; exact noB_of (grBs_pos _ _ _)⟩)
  have BB5 := Lib.hid (bThen BB.out hb5)
  obtain ⟨W6, hW6⟩ : ∃ X, X = w5.alloc (.cells #[.string ⟨#[103, 114, 111, 117, 112]⟩, .string s1, .string ⟨#[109, 97, 114, 107]⟩, .string ⟨#[49]⟩] 64) := ⟨_, rfl⟩
  have B6 := Lib.hid (bThen BB5.out (show Below w5.heap.size w5 W6 by rw [hW6]; exact bel_alloc (Below.refl _ _) _))
  have R6 := Lib.hid (show Sto.OkRow W6 (.slice (some ⟨w5.heap.size, 0, none⟩) 2 2) (Sto.two s1 Sto.n1) by rw [hW6]; exact Sto.row_two w5 HG1.out Sto.by1)
  rw [← hW6]
  clear hW6 hb5 BB BB5 h1 h2
  have hB := Sto.batch_any Sto.zS (Sto.two s1 Sto.n1) (-1) _ _ W6 (Sto.zS_at W6) R6.out
  rw [Sto.batch_nil HG1.out Sto.by1] at hB
  refine hB.mono ?_
  clear hB
  rintro e w7 ⟨v7, rfl, hst7, hb7⟩
  have B7 := Lib.hid (bThen B6.out hb7)
  obtain ⟨P1, d1, P2, d2, rfl, hok1, hok2⟩ := hst7.form
  have S7 := Lib.hid hst7
  simp only [two_len, List.length_nil] at S7 ⊢
  clear hst7 hok1 hok2 hb7 B6 R6
  have hL : ∃ L, min (max left (-1)) 4 = L := ⟨_, rfl⟩
  obtain ⟨L, hL⟩ := hL
  have hL1 : -1 ≤ L ∧ L ≤ 4 := by omega
  go_wp2_with fail
  -- THE SECOND BATCH
  obtain ⟨W8, hW8⟩ : ∃ X, X = (w7.alloc (.cells #[.slice P1 2 d1, .slice P2 0 d2, .bool false] 60)).alloc (.cells #[.string ⟨#[103, 114, 111, 117, 112]⟩, .string s2, .string ⟨#[109, 97, 114, 107]⟩, .string ⟨#[50]⟩] 64) := ⟨_, rfl⟩
  have B78 := Lib.hid (show Below w7.heap.size w7 W8 by rw [hW8]; exact bel_alloc (bel_alloc (Below.refl _ _) _) _)
  have B8 := Lib.hid (bThen B7.out B78.out)
  have R8 := Lib.hid (show Sto.OkRow W8 (.slice (some ⟨w7.heap.size + 1, 0, none⟩) 2 2) (Sto.two s2 Sto.n2) by rw [hW8]; have h := Sto.row_two (w7.alloc (.cells #[.slice P1 2 d1, .slice P2 0 d2, .bool false] 60)) HG2.out Sto.by2; rw [show (w7.alloc (.cells #[.slice P1 2 d1, .slice P2 0 d2, .bool false] 60)).heap.size = w7.heap.size + 1 by simp] at h; exact h)
  have S8 := Lib.hid (S7.out.below B78.out)
  rw [← hW8]
  clear hW8 B78 S7 B7
  have hB := Sto.batch_any ⟨Sto.two s1 Sto.n1, [], false⟩ (Sto.two s2 Sto.n2) L _ _ W8 S8.out R8.out
  clear S8 R8
  have hBT := Sto.batch_two (a := s1) (b := s2) (j := Sto.n1) (k := Sto.n2) (left := L) HG1.out Sto.by1 HG2.out Sto.by2
  rcases (show L < 0 ∨ (0 ≤ L ∧ L ≤ 2) ∨ 3 ≤ L by omega) with hl | hl | hl
  · -- CASE L<0
    have hd3 : decide ((0 : Int) ≤ L) = false := decide_eq_false (by omega)
    rw [hBT.1 (.inl hl)] at hB
    refine hB.mono ?_
    clear hB
    rintro e w9 ⟨v9, rfl, hst9, hb9⟩
    have B9 := Lib.hid (bThen B8.out hb9)
    have B9Z := Lib.hid (show W.heap.size ≤ w9.heap.size from B9.out.size)
    obtain ⟨P3, d3, P4, d4, rfl, hok1, hok2⟩ := hst9.form
    have S9 := Lib.hid hst9
    simp only [two_len, List.length_nil] at S9 ⊢
    clear hst9 hok1 hok2 hb9 B8
    go_wp2_with fail
    obtain ⟨W10, hW10⟩ : ∃ X, X = w9.alloc (.cells #[.slice P3 2 d3, .slice P4 0 d4, .bool false] 60) := ⟨_, rfl⟩
    have hb10 : Below w9.heap.size w9 W10 := by rw [hW10]; exact bel_alloc (Below.refl _ _) _
    have B10 := Lib.hid (bThen B9.out hb10)
    have S10 := S9.out.below hb10
    have N10 := Lib.hid (show W10.heap[w9.heap.size]? = some (.cells #[.slice P3 2 d3, .slice P4 0 d4, .bool false] 60 (0, 0)) by rw [hW10]; exact heap_at _ _ _ (by simp))
    rw [← hW10]
    clear hW10 hb10 S9 B9
    have hT := Sto.start_any _ _ _ S10
    rw [Sto.start_two HG2.out Sto.by2 Sto.allC_nil (by simp)] at hT
    refine hT.mono ?_
    clear hT S10
    rintro e w11 ⟨v11, rfl, hst11, hb11⟩
    have B11 := Lib.hid (bThen B10.out hb11)
    have N11 := Lib.hid (heap_below N10.out hb11)
    obtain ⟨P5, d5, P6, d6, rfl, hok1, hok2⟩ := hst11.form
    have S11 := Lib.hid hst11
    simp only [two_len, List.length_nil] at S11 ⊢
    clear hst11 hok1 hok2 hb11 B10 N10
    have zn := blk_lt N11.out
    have y0 := cellsAt N11.out 0
    have y1 := cellsAt N11.out 1
    have y2 := cellsAt N11.out 2
    simp at y0 y1 y2
    have f0 := frozAt N11.out
    go_wp2_with fail
    clear zn y0 y1 y2 f0
    obtain ⟨W12, hW12⟩ : ∃ X, X = ((w11.setCell ⟨w9.heap.size, 0, none⟩ (.slice P5 2 d5)).setCell ⟨w9.heap.size, 1, none⟩ (.slice P6 0 d6)).setCell ⟨w9.heap.size, 2, none⟩ (.bool false) := ⟨_, rfl⟩
    have B12 := Lib.hid (show Below W.heap.size W W12 by rw [hW12]; exact Sto.bel3 B11.out (by have := B9Z.out; omega) _ _ _)
    have S12 := Lib.hid (show Sto.StAt W12 _ _ by rw [hW12]; exact S11.out.set3 (Sto.nostr3 N11.out))
    have N12 := Lib.hid (show W12.heap[w9.heap.size]? = some (.cells #[.slice P5 2 d5, .slice P6 0 d6, .bool false] 60 (0, 0)) by rw [hW12]; have h := blk_set (blk_set (blk_set N11.out 0 (.slice P5 2 d5)) 1 (.slice P6 0 d6)) 2 (.bool false); simpa using h)
    rw [← hW12]
    clear hW12 S11 B11 N11
    have y0 := cellsAt N12.out 0
    have y1 := cellsAt N12.out 1
    have y2 := cellsAt N12.out 2
    have zn := blk_lt N12.out
    simp at y0 y1 y2
    first | done | go_wp2_with fail
    have hT := Sto.read_any _ Sto.gN _ _ S12.out
    rw [Sto.read_g HG2.out Sto.by2] at hT
    refine hT.mono ?_
    clear hT zn y0 y1 y2
    rintro e w13 ⟨rfl, hb13⟩
    have B13 := Lib.hid (bThen B12.out hb13)
    have N13 := Lib.hid (heap_below N12.out hb13)
    have S13 := Lib.hid (S12.out.below hb13)
    clear hb13 B12 N12 S12
    have y0 := cellsAt N13.out 0
    have y1 := cellsAt N13.out 1
    have y2 := cellsAt N13.out 2
    have zn := blk_lt N13.out
    simp at y0 y1 y2
    go_wp2_with fail
    have hT := Sto.read_any _ Sto.mN _ _ S13.out
    rw [Sto.read_m HG2.out Sto.by2] at hT
    refine hT.mono ?_
    clear hT zn y0 y1 y2
    rintro e w14 ⟨rfl, hb14⟩
    have B14 := Lib.hid (bThen B13.out hb14)
    clear hb14 B13 N13 S13
    simp only [Sto.n2]
    go_wp2_with fail
    have hgg := fun w => gget_any no2 m2 l2 s2 w (by rw [← HS2.out]; rfl) HQ2.out HW2.out
    refine (hgg _).mono ?_
    rintro e w15 ⟨vx, rfl, hrx, hb15⟩
    have B15 := Lib.hid (bThen B14.out hb15)
    have X15 := Lib.hid hrx
    obtain ⟨AX, cx, rfl, -, -⟩ := hrx
    rw [HN2.out] at X15 ⊢
    clear hb15 B14
    go_wp2_with fail
    obtain ⟨W16, hW16⟩ : ∃ X, X = w15.alloc (.cells #[.int .i64 no2, .int .i64 m2, .slice AX n2 cx] 56) := ⟨_, rfl⟩
    have hb16 : Below w15.heap.size w15 W16 := by rw [hW16]; exact bel_alloc (Below.refl _ _) _
    have B16 := Lib.hid (bThen B15.out hb16)
    have X16 := X15.out.below hb16
    have N16 := Lib.hid (show W16.heap[w15.heap.size]? = some (.cells #[.int .i64 no2, .int .i64 m2, .slice AX n2 cx] 56 (0, 0)) by rw [hW16]; exact heap_at _ _ _ (by simp))
    rw [← hW16]
    clear hW16 hb16 B15 X15
    refine (hgg _).mono ?_
    rintro e w17 ⟨vy, rfl, hry, hb17⟩
    have B17 := Lib.hid (bThen B16.out hb17)
    have N17 := Lib.hid (heap_below N16.out hb17)
    have X17 := Lib.hid (X16.below hb17)
    have Y17 := Lib.hid hry
    obtain ⟨AY, cy, rfl, -, -⟩ := hry
    rw [HN2.out] at Y17 ⊢
    clear hb17 B16 X16 N16 hgg
    have y0 := cellsAt N17.out 0
    have y1 := cellsAt N17.out 1
    have y2 := cellsAt N17.out 2
    have zn := blk_lt N17.out
    simp at y0 y1 y2
    go_wp2_with fail
    obtain ⟨W18, hW18⟩ : ∃ X, X = w17.alloc (.cells #[.int .i64 no2, .int .i64 m2, .slice AY n2 cy] 56) := ⟨_, rfl⟩
    have hb18 : Below w17.heap.size w17 W18 := by rw [hW18]; exact bel_alloc (Below.refl _ _) _
    have B18 := Lib.hid (bThen B17.out hb18)
    have X18 := X17.out.below hb18
    have Y18 := Y17.out.below hb18
    rw [← hW18]
    refine (plike_same l2 _ _ W18 X18 Y18 (gr_pr HQ2.out).2.2.2.2.2).mono ?_
    clear hW18 hb18 B17 N17 X17 Y17 y0 y1 y2 zn X18 Y18
    rintro e w19 ⟨rfl, hb19⟩
    have B19 := Lib.hid (bThen B18.out hb19)
    clear hb19 B18
    go_wp2_with fail
    go_ret
    exact ⟨rfl, B19.out⟩
  · obtain ⟨f, hf1, hf2, hBf⟩ := hBT.2 hl
    -- CASE 0<=L<=2
    have hd3 : decide ((0 : Int) ≤ L) = true := decide_eq_true (by omega)
    have hd4 : decide (L < 3) = true := decide_eq_true (by omega)
    rw [hBf] at hB
    refine hB.mono ?_
    clear hB
    rintro e w9 ⟨v9, rfl, hst9, hb9⟩
    have B9 := Lib.hid (bThen B8.out hb9)
    have B9Z := Lib.hid (show W.heap.size ≤ w9.heap.size from B9.out.size)
    obtain ⟨P3, d3, P4, d4, rfl, hok1, hok2⟩ := hst9.form
    have S9 := Lib.hid hst9
    simp only [two_len, List.length_nil] at S9 ⊢
    clear hst9 hok1 hok2 hb9 B8
    go_wp2_with fail
    obtain ⟨W10, hW10⟩ : ∃ X, X = w9.alloc (.cells #[.slice P3 2 d3, .slice P4 f.length d4, .bool true] 60) := ⟨_, rfl⟩
    have hb10 : Below w9.heap.size w9 W10 := by rw [hW10]; exact bel_alloc (Below.refl _ _) _
    have B10 := Lib.hid (bThen B9.out hb10)
    have S10 := S9.out.below hb10
    have N10 := Lib.hid (show W10.heap[w9.heap.size]? = some (.cells #[.slice P3 2 d3, .slice P4 f.length d4, .bool true] 60 (0, 0)) by rw [hW10]; exact heap_at _ _ _ (by simp))
    rw [← hW10]
    clear hW10 hb10 S9 B9
    have hT := Sto.start_any _ _ _ S10
    rw [Sto.start_two HG1.out Sto.by1 hf1 hf2] at hT
    refine hT.mono ?_
    clear hT S10
    rintro e w11 ⟨v11, rfl, hst11, hb11⟩
    have B11 := Lib.hid (bThen B10.out hb11)
    have N11 := Lib.hid (heap_below N10.out hb11)
    obtain ⟨P5, d5, P6, d6, rfl, hok1, hok2⟩ := hst11.form
    have S11 := Lib.hid hst11
    simp only [two_len, List.length_nil] at S11 ⊢
    clear hst11 hok1 hok2 hb11 B10 N10
    have zn := blk_lt N11.out
    have y0 := cellsAt N11.out 0
    have y1 := cellsAt N11.out 1
    have y2 := cellsAt N11.out 2
    simp at y0 y1 y2
    have f0 := frozAt N11.out
    go_wp2_with fail
    clear zn y0 y1 y2 f0
    obtain ⟨W12, hW12⟩ : ∃ X, X = ((w11.setCell ⟨w9.heap.size, 0, none⟩ (.slice P5 2 d5)).setCell ⟨w9.heap.size, 1, none⟩ (.slice P6 0 d6)).setCell ⟨w9.heap.size, 2, none⟩ (.bool false) := ⟨_, rfl⟩
    have B12 := Lib.hid (show Below W.heap.size W W12 by rw [hW12]; exact Sto.bel3 B11.out (by have := B9Z.out; omega) _ _ _)
    have S12 := Lib.hid (show Sto.StAt W12 _ _ by rw [hW12]; exact S11.out.set3 (Sto.nostr3 N11.out))
    have N12 := Lib.hid (show W12.heap[w9.heap.size]? = some (.cells #[.slice P5 2 d5, .slice P6 0 d6, .bool false] 60 (0, 0)) by rw [hW12]; have h := blk_set (blk_set (blk_set N11.out 0 (.slice P5 2 d5)) 1 (.slice P6 0 d6)) 2 (.bool false); simpa using h)
    rw [← hW12]
    clear hW12 S11 B11 N11
    have y0 := cellsAt N12.out 0
    have y1 := cellsAt N12.out 1
    have y2 := cellsAt N12.out 2
    have zn := blk_lt N12.out
    simp at y0 y1 y2
    first | done | go_wp2_with fail
    have hT := Sto.read_any _ Sto.gN _ _ S12.out
    rw [Sto.read_g HG1.out Sto.by1] at hT
    refine hT.mono ?_
    clear hT zn y0 y1 y2
    rintro e w13 ⟨rfl, hb13⟩
    have B13 := Lib.hid (bThen B12.out hb13)
    have N13 := Lib.hid (heap_below N12.out hb13)
    have S13 := Lib.hid (S12.out.below hb13)
    clear hb13 B12 N12 S12
    have y0 := cellsAt N13.out 0
    have y1 := cellsAt N13.out 1
    have y2 := cellsAt N13.out 2
    have zn := blk_lt N13.out
    simp at y0 y1 y2
    go_wp2_with fail
    have hT := Sto.read_any _ Sto.mN _ _ S13.out
    rw [Sto.read_m HG1.out Sto.by1] at hT
    refine hT.mono ?_
    clear hT zn y0 y1 y2
    rintro e w14 ⟨rfl, hb14⟩
    have B14 := Lib.hid (bThen B13.out hb14)
    clear hb14 B13 N13 S13
    simp only [Sto.n1]
    go_wp2_with fail
    have hgg := fun w => gget_any no1 m1 l1 s1 w (by rw [← HS1.out]; rfl) HQ1.out HW1.out
    refine (hgg _).mono ?_
    rintro e w15 ⟨vx, rfl, hrx, hb15⟩
    have B15 := Lib.hid (bThen B14.out hb15)
    have X15 := Lib.hid hrx
    obtain ⟨AX, cx, rfl, -, -⟩ := hrx
    rw [HN1.out] at X15 ⊢
    clear hb15 B14
    go_wp2_with fail
    obtain ⟨W16, hW16⟩ : ∃ X, X = w15.alloc (.cells #[.int .i64 no1, .int .i64 m1, .slice AX n1 cx] 56) := ⟨_, rfl⟩
    have hb16 : Below w15.heap.size w15 W16 := by rw [hW16]; exact bel_alloc (Below.refl _ _) _
    have B16 := Lib.hid (bThen B15.out hb16)
    have X16 := X15.out.below hb16
    have N16 := Lib.hid (show W16.heap[w15.heap.size]? = some (.cells #[.int .i64 no1, .int .i64 m1, .slice AX n1 cx] 56 (0, 0)) by rw [hW16]; exact heap_at _ _ _ (by simp))
    rw [← hW16]
    clear hW16 hb16 B15 X15
    refine (hgg _).mono ?_
    rintro e w17 ⟨vy, rfl, hry, hb17⟩
    have B17 := Lib.hid (bThen B16.out hb17)
    have N17 := Lib.hid (heap_below N16.out hb17)
    have X17 := Lib.hid (X16.below hb17)
    have Y17 := Lib.hid hry
    obtain ⟨AY, cy, rfl, -, -⟩ := hry
    rw [HN1.out] at Y17 ⊢
    clear hb17 B16 X16 N16 hgg
    have y0 := cellsAt N17.out 0
    have y1 := cellsAt N17.out 1
    have y2 := cellsAt N17.out 2
    have zn := blk_lt N17.out
    simp at y0 y1 y2
    go_wp2_with fail
    obtain ⟨W18, hW18⟩ : ∃ X, X = w17.alloc (.cells #[.int .i64 no1, .int .i64 m1, .slice AY n1 cy] 56) := ⟨_, rfl⟩
    have hb18 : Below w17.heap.size w17 W18 := by rw [hW18]; exact bel_alloc (Below.refl _ _) _
    have B18 := Lib.hid (bThen B17.out hb18)
    have X18 := X17.out.below hb18
    have Y18 := Y17.out.below hb18
    rw [← hW18]
    refine (plike_same l1 _ _ W18 X18 Y18 (gr_pr HQ1.out).2.2.2.2.2).mono ?_
    clear hW18 hb18 B17 N17 X17 Y17 y0 y1 y2 zn X18 Y18
    rintro e w19 ⟨rfl, hb19⟩
    have B19 := Lib.hid (bThen B18.out hb19)
    clear hb19 B18
    go_wp2_with fail
    go_ret
    exact ⟨rfl, B19.out⟩
  · -- CASE 3<=L
    have hd3 : decide ((0 : Int) ≤ L) = true := decide_eq_true (by omega)
    have hd4 : decide (L < 3) = false := decide_eq_false (by omega)
    rw [hBT.1 (.inr (by omega))] at hB
    refine hB.mono ?_
    clear hB
    rintro e w9 ⟨v9, rfl, hst9, hb9⟩
    have B9 := Lib.hid (bThen B8.out hb9)
    have B9Z := Lib.hid (show W.heap.size ≤ w9.heap.size from B9.out.size)
    obtain ⟨P3, d3, P4, d4, rfl, hok1, hok2⟩ := hst9.form
    have S9 := Lib.hid hst9
    simp only [two_len, List.length_nil] at S9 ⊢
    clear hst9 hok1 hok2 hb9 B8
    go_wp2_with fail
    obtain ⟨W10, hW10⟩ : ∃ X, X = w9.alloc (.cells #[.slice P3 2 d3, .slice P4 0 d4, .bool false] 60) := ⟨_, rfl⟩
    have hb10 : Below w9.heap.size w9 W10 := by rw [hW10]; exact bel_alloc (Below.refl _ _) _
    have B10 := Lib.hid (bThen B9.out hb10)
    have S10 := S9.out.below hb10
    have N10 := Lib.hid (show W10.heap[w9.heap.size]? = some (.cells #[.slice P3 2 d3, .slice P4 0 d4, .bool false] 60 (0, 0)) by rw [hW10]; exact heap_at _ _ _ (by simp))
    rw [← hW10]
    clear hW10 hb10 S9 B9
    have hT := Sto.start_any _ _ _ S10
    rw [Sto.start_two HG2.out Sto.by2 Sto.allC_nil (by simp)] at hT
    refine hT.mono ?_
    clear hT S10
    rintro e w11 ⟨v11, rfl, hst11, hb11⟩
    have B11 := Lib.hid (bThen B10.out hb11)
    have N11 := Lib.hid (heap_below N10.out hb11)
    obtain ⟨P5, d5, P6, d6, rfl, hok1, hok2⟩ := hst11.form
    have S11 := Lib.hid hst11
    simp only [two_len, List.length_nil] at S11 ⊢
    clear hst11 hok1 hok2 hb11 B10 N10
    have zn := blk_lt N11.out
    have y0 := cellsAt N11.out 0
    have y1 := cellsAt N11.out 1
    have y2 := cellsAt N11.out 2
    simp at y0 y1 y2
    have f0 := frozAt N11.out
    go_wp2_with fail
    clear zn y0 y1 y2 f0
    obtain ⟨W12, hW12⟩ : ∃ X, X = ((w11.setCell ⟨w9.heap.size, 0, none⟩ (.slice P5 2 d5)).setCell ⟨w9.heap.size, 1, none⟩ (.slice P6 0 d6)).setCell ⟨w9.heap.size, 2, none⟩ (.bool false) := ⟨_, rfl⟩
    have B12 := Lib.hid (show Below W.heap.size W W12 by rw [hW12]; exact Sto.bel3 B11.out (by have := B9Z.out; omega) _ _ _)
    have S12 := Lib.hid (show Sto.StAt W12 _ _ by rw [hW12]; exact S11.out.set3 (Sto.nostr3 N11.out))
    have N12 := Lib.hid (show W12.heap[w9.heap.size]? = some (.cells #[.slice P5 2 d5, .slice P6 0 d6, .bool false] 60 (0, 0)) by rw [hW12]; have h := blk_set (blk_set (blk_set N11.out 0 (.slice P5 2 d5)) 1 (.slice P6 0 d6)) 2 (.bool false); simpa using h)
    rw [← hW12]
    clear hW12 S11 B11 N11
    have y0 := cellsAt N12.out 0
    have y1 := cellsAt N12.out 1
    have y2 := cellsAt N12.out 2
    have zn := blk_lt N12.out
    simp at y0 y1 y2
    first | done | go_wp2_with fail
    have hT := Sto.read_any _ Sto.gN _ _ S12.out
    rw [Sto.read_g HG2.out Sto.by2] at hT
    refine hT.mono ?_
    clear hT zn y0 y1 y2
    rintro e w13 ⟨rfl, hb13⟩
    have B13 := Lib.hid (bThen B12.out hb13)
    have N13 := Lib.hid (heap_below N12.out hb13)
    have S13 := Lib.hid (S12.out.below hb13)
    clear hb13 B12 N12 S12
    have y0 := cellsAt N13.out 0
    have y1 := cellsAt N13.out 1
    have y2 := cellsAt N13.out 2
    have zn := blk_lt N13.out
    simp at y0 y1 y2
    go_wp2_with fail
    have hT := Sto.read_any _ Sto.mN _ _ S13.out
    rw [Sto.read_m HG2.out Sto.by2] at hT
    refine hT.mono ?_
    clear hT zn y0 y1 y2
    rintro e w14 ⟨rfl, hb14⟩
    have B14 := Lib.hid (bThen B13.out hb14)
    clear hb14 B13 N13 S13
    simp only [Sto.n2]
    go_wp2_with fail
    have hgg := fun w => gget_any no2 m2 l2 s2 w (by rw [← HS2.out]; rfl) HQ2.out HW2.out
    refine (hgg _).mono ?_
    rintro e w15 ⟨vx, rfl, hrx, hb15⟩
    have B15 := Lib.hid (bThen B14.out hb15)
    have X15 := Lib.hid hrx
    obtain ⟨AX, cx, rfl, -, -⟩ := hrx
    rw [HN2.out] at X15 ⊢
    clear hb15 B14
    go_wp2_with fail
    obtain ⟨W16, hW16⟩ : ∃ X, X = w15.alloc (.cells #[.int .i64 no2, .int .i64 m2, .slice AX n2 cx] 56) := ⟨_, rfl⟩
    have hb16 : Below w15.heap.size w15 W16 := by rw [hW16]; exact bel_alloc (Below.refl _ _) _
    have B16 := Lib.hid (bThen B15.out hb16)
    have X16 := X15.out.below hb16
    have N16 := Lib.hid (show W16.heap[w15.heap.size]? = some (.cells #[.int .i64 no2, .int .i64 m2, .slice AX n2 cx] 56 (0, 0)) by rw [hW16]; exact heap_at _ _ _ (by simp))
    rw [← hW16]
    clear hW16 hb16 B15 X15
    refine (hgg _).mono ?_
    rintro e w17 ⟨vy, rfl, hry, hb17⟩
    have B17 := Lib.hid (bThen B16.out hb17)
    have N17 := Lib.hid (heap_below N16.out hb17)
    have X17 := Lib.hid (X16.below hb17)
    have Y17 := Lib.hid hry
    obtain ⟨AY, cy, rfl, -, -⟩ := hry
    rw [HN2.out] at Y17 ⊢
    clear hb17 B16 X16 N16 hgg
    have y0 := cellsAt N17.out 0
    have y1 := cellsAt N17.out 1
    have y2 := cellsAt N17.out 2
    have zn := blk_lt N17.out
    simp at y0 y1 y2
    go_wp2_with fail
    obtain ⟨W18, hW18⟩ : ∃ X, X = w17.alloc (.cells #[.int .i64 no2, .int .i64 m2, .slice AY n2 cy] 56) := ⟨_, rfl⟩
    have hb18 : Below w17.heap.size w17 W18 := by rw [hW18]; exact bel_alloc (Below.refl _ _) _
    have B18 := Lib.hid (bThen B17.out hb18)
    have X18 := X17.out.below hb18
    have Y18 := Y17.out.below hb18
    rw [← hW18]
    refine (plike_same l2 _ _ W18 X18 Y18 (gr_pr HQ2.out).2.2.2.2.2).mono ?_
    clear hW18 hb18 B17 N17 X17 Y17 y0 y1 y2 zn X18 Y18
    rintro e w19 ⟨rfl, hb19⟩
    have B19 := Lib.hid (bThen B18.out hb19)
    clear hb19 B18
    go_wp2_with fail
    go_ret
    exact ⟨rfl, B19.out⟩
end Go.Proofs.YtlboehpgpbchhaaGreat
