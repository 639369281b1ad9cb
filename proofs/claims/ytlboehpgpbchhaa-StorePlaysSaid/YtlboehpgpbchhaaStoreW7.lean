/-
  WALKS of layer 17: Write of the program; Like, alive, small.
-/
import Derived.Test.YtlboehpgpbchhaaStoreW6
set_option linter.unusedVariables false
set_option linter.unusedSimpArgs false
namespace Go.Proofs.Ytlboehpgpbchhaa
open Go.RowKit

def writeS (s : St) (x : Cl) : St × Int := if (rightB s.c s.f && mayC x) = true then (if s.d = true then (zS, 170) else if 64 ≤ s.f.length then (zS, 3) else (⟨s.c, s.f ++ [x], false⟩, 0)) else (zS, 1)
set_option maxRecDepth 100000 in
set_option maxHeartbeats 4000000 in
theorem write_any (s : St) (x : Cl) (hx : x.Ok) (v : Value) (w : World) (hs : StAt w v s) :
    Calls Try.prog 19 #[v, .string x.n, .string x.b] w (StTo (writeS s x) w) := by
  have HS := Lib.hid hs
  obtain ⟨lc, lf, d⟩ := s
  obtain ⟨A, c, A', c', rfl, hv, hu⟩ := hs.form
  simp only at hv hu
  have RL := Lib.hid hv.1
  have RF := Lib.hid hu.1
  have OKL := Lib.hid hv.2.1
  have OKF := Lib.hid hu.2.1
  have hl := hv.2.2
  have hl2 := hu.2.2
  have HV := Lib.hid hv
  have HU := Lib.hid hu
  obtain ⟨m, hm⟩ : ∃ m, lc.length = m := ⟨_, rfl⟩
  obtain ⟨m2, hm2⟩ : ∃ m, lf.length = m := ⟨_, rfl⟩
  obtain ⟨R, hR⟩ : ∃ R, writeS ⟨lc, lf, d⟩ x = R := ⟨_, rfl⟩
  rw [hR]
  have HR := Lib.hid hR
  simp only at HV HU ⊢
  rw [hm] at RL HV hl ⊢
  rw [hm2] at RF HU hl2 ⊢
  have Hm := Lib.hid hm
  have Hm2 := Lib.hid hm2
  obtain ⟨q, hq⟩ : ∃ q, rightB lc lf = q := ⟨_, rfl⟩
  obtain ⟨bm, hbm⟩ : ∃ q, mayC x = q := ⟨_, rfl⟩
  have HD := Lib.hid (fun W h1 h2 => sright_any lc lf d (.slice A m c) (.slice A' m2 c') W h1 h2 q hq)
  have HP := Lib.hid (fun W => may_any x W bm hbm hx)
  have HQ := Lib.hid hq
  have HM := Lib.hid hbm
  have HXO := Lib.hid hx
  have HK := Lib.hid (fun W (h : Row Cl.cs 2 W (.slice A' m2 c') lf) => clone_any lf _ W h (by omega))
  obtain ⟨i0, hi, hi0, hi1, hi2⟩ := info_parts info_cl
  have HI := Lib.hid hi
  have HZ0 := Lib.hid hi0
  have HZ1 := Lib.hid hi1
  have HZ2 := Lib.hid hi2
  clear hm hm2 hv hu hR hq hbm hs hx hi hi0 hi1 hi2
  obtain ⟨xn, xb⟩ := x
  simp only at HP ⊢
  unfold StTo
  go_enter Try.func19, Try.ntmps19
  go_wp2_with fail
  obtain ⟨W1, hW2⟩ : ∃ X, X = (((w).alloc (.cells #[.slice A m c, .slice A' m2 c', .bool d] 24)).alloc (.cells #[.slice none 0 0, .slice none 0 0, .bool false] 24)).alloc (.cells #[.string xn, .string xb] 43) := ⟨_, rfl⟩
  rw [← hW2]
  have hb3 : Below w.heap.size w W1 := by rw [hW2]; exact bel_alloc (bel_alloc (bel_alloc (Below.refl _ _) _) _) _
  have Ns := Lib.hid (show W1.heap[w.heap.size]? = some (.cells #[.slice A m c, .slice A' m2 c', .bool d] 24 (0, 0)) by rw [hW2]; exact heap_below (heap_at (w) _ (w.heap.size) (by simp)) (bel_alloc (bel_alloc (Below.refl _ _) _) _))
  have Nz := Lib.hid (show W1.heap[w.heap.size + 1]? = some (.cells #[.slice none 0 0, .slice none 0 0, .bool false] 24 (0, 0)) by rw [hW2]; exact heap_below (heap_at ((w).alloc (.cells #[.slice A m c, .slice A' m2 c', .bool d] 24)) _ (w.heap.size + 1) (by simp)) (bel_alloc (Below.refl _ _) _))
  have Nc := Lib.hid (show W1.heap[w.heap.size + 1 + 1]? = some (.cells #[.string xn, .string xb] 43 (0, 0)) by rw [hW2]; exact heap_at (((w).alloc (.cells #[.slice A m c, .slice A' m2 c', .bool d] 24)).alloc (.cells #[.slice none 0 0, .slice none 0 0, .bool false] 24)) _ (w.heap.size + 1 + 1) (by simp))
  clear hW2
  have BB4 := Lib.hid hb3
  clear hb3
  have Bls := Ns
  clear Ns
  have Blz := Nz
  clear Nz
  have Blc := Nc
  clear Nc
  have R1 := Lib.hid (HV.out.below BB4.out)
  have R2 := Lib.hid (HU.out.below BB4.out)
  refine (HD.out _ R1.out R2.out).mono ?_
  rintro e w5 ⟨rfl, hb6⟩
  have Z := Lib.hid (heap_below Bls.out hb6)
  clear Bls
  have Bls := Z
  clear Z
  have Z := Lib.hid (heap_below Blz.out hb6)
  clear Blz
  have Blz := Z
  clear Z
  have Z := Lib.hid (heap_below Blc.out hb6)
  clear Blc
  have Blc := Z
  clear Z
  have Z := Lib.hid (OkRow.below R1.out hb6)
  clear R1
  have R1 := Z
  clear Z
  have Z := Lib.hid (OkRow.below R2.out hb6)
  clear R2
  have R2 := Z
  clear Z
  have BB7 := Lib.hid (bThen BB4.out hb6)
  clear hb6
  have zs := blk_lt Bls.out
  have xs0 := cellsAt Bls.out 0
  have xs1 := cellsAt Bls.out 1
  have xs2 := cellsAt Bls.out 2
  have fs := frozAt Bls.out
  simp at xs0 xs1 xs2
  have zz := blk_lt Blz.out
  have xz0 := cellsAt Blz.out 0
  have xz1 := cellsAt Blz.out 1
  have xz2 := cellsAt Blz.out 2
  have fz := frozAt Blz.out
  simp at xz0 xz1 xz2
  have zc := blk_lt Blc.out
  have xc0 := cellsAt Blc.out 0
  have xc1 := cellsAt Blc.out 1
  have fc := frozAt Blc.out
  simp at xc0 xc1
  cases q with
  | false =>
    have HRR := Lib.hid (show R = (zS, 1) by rw [← HR.out]; unfold writeS; simp only; rw [if_neg (by rw [HQ.out]; simp)])
    go_wp2_with fail
    exact bodyPost_ret (v := .tuple #[.agg #[.slice none 0 0, .slice none 0 0, .bool false], .int .i64 1]) (by simp [results, Try.results19, go_sem, xz0, xz1, xz2]) rfl ⟨_, by rw [HRR.out], by rw [HRR.out]; exact zS_at _, bel3 BB7.out (by omega) _ _ _⟩
  | true =>
    go_wp2_with fail
    refine (HP.out _).mono ?_
    rintro e w8 ⟨rfl, hb9⟩
    clear zs fs xs0 xs1 xs2 zz fz xz0 xz1 xz2 zc fc xc0 xc1
    have Z := Lib.hid (heap_below Bls.out hb9)
    clear Bls
    have Bls := Z
    clear Z
    have Z := Lib.hid (heap_below Blz.out hb9)
    clear Blz
    have Blz := Z
    clear Z
    have Z := Lib.hid (heap_below Blc.out hb9)
    clear Blc
    have Blc := Z
    clear Z
    have Z := Lib.hid (OkRow.below R1.out hb9)
    clear R1
    have R1 := Z
    clear Z
    have Z := Lib.hid (OkRow.below R2.out hb9)
    clear R2
    have R2 := Z
    clear Z
    have BB10 := Lib.hid (bThen BB7.out hb9)
    clear hb9
    have zs := blk_lt Bls.out
    have xs0 := cellsAt Bls.out 0
    have xs1 := cellsAt Bls.out 1
    have xs2 := cellsAt Bls.out 2
    have fs := frozAt Bls.out
    simp at xs0 xs1 xs2
    have zz := blk_lt Blz.out
    have xz0 := cellsAt Blz.out 0
    have xz1 := cellsAt Blz.out 1
    have xz2 := cellsAt Blz.out 2
    have fz := frozAt Blz.out
    simp at xz0 xz1 xz2
    have zc := blk_lt Blc.out
    have xc0 := cellsAt Blc.out 0
    have xc1 := cellsAt Blc.out 1
    have fc := frozAt Blc.out
    simp at xc0 xc1
    cases bm with
    | false =>
      have HRR := Lib.hid (show R = (zS, 1) by rw [← HR.out]; unfold writeS; simp only; rw [if_neg (by rw [HQ.out, HM.out]; simp)])
      go_wp2_with fail
      exact bodyPost_ret (v := .tuple #[.agg #[.slice none 0 0, .slice none 0 0, .bool false], .int .i64 1]) (by simp [results, Try.results19, go_sem, xz0, xz1, xz2]) rfl ⟨_, by rw [HRR.out], by rw [HRR.out]; exact zS_at _, bel3 BB10.out (by omega) _ _ _⟩
    | true =>
      have HQM := Lib.hid (show (rightB lc lf && mayC ⟨xn, xb⟩) = true by rw [HQ.out, HM.out]; rfl)
      cases d with
      | true =>
        have HRR := Lib.hid (show R = (zS, 170) by rw [← HR.out]; unfold writeS; simp only; rw [if_pos HQM.out, if_pos trivial])
        go_wp2_with fail
        exact bodyPost_ret (v := .tuple #[.agg #[.slice none 0 0, .slice none 0 0, .bool false], .int .i64 170]) (by simp [results, Try.results19, go_sem, xz0, xz1, xz2]) rfl ⟨_, by rw [HRR.out], by rw [HRR.out]; exact zS_at _, bel3 BB10.out (by omega) _ _ _⟩
      | false =>
        by_cases h64 : 64 ≤ m2
        · have HRR := Lib.hid (show R = (zS, 3) by rw [← HR.out]; unfold writeS; simp only; rw [if_pos HQM.out, if_neg (by simp), if_pos (by rw [Hm2.out]; exact h64)])
          have t64 : decide (64 ≤ (m2 : Int)) = true := by simp; omega
          have t64n : decide (64 ≤ m2) = true := by simp; omega
          go_wp2_with fail
          exact bodyPost_ret (v := .tuple #[.agg #[.slice none 0 0, .slice none 0 0, .bool false], .int .i64 3]) (by simp [results, Try.results19, go_sem, xz0, xz1, xz2]) rfl ⟨_, by rw [HRR.out], by rw [HRR.out]; exact zS_at _, bel3 BB10.out (by omega) _ _ _⟩
        · have HRR := Lib.hid (show R = (⟨lc, lf ++ [⟨xn, xb⟩], false⟩, 0) by rw [← HR.out]; unfold writeS; simp only; rw [if_pos HQM.out, if_neg (by simp), if_neg (by rw [Hm2.out]; exact h64)])
          have t64 : decide (64 ≤ (m2 : Int)) = false := by simp; omega
          have t64n : decide (64 ≤ m2) = false := by simp; omega
          go_upto_region 8 with fail
          have R2' := R2.out.1
          go_region_law (first | (go_simp; go_at_call 36; refine (HK.out _ (by first | assumption | exact Row.alloc (by assumption) _)).mono ?_; rintro e w4 ⟨v4, rfl, hown, hb4⟩; rw [Hm2.out] at hown; obtain ⟨A4, c4, rfl⟩ := own_slice hown; (try have q0 := (hb4.cell (p := ⟨w.heap.size + 1 + 1, 0, none⟩) (by assumption)).trans (by assumption : _ = some (Value.string xn))); (try have q1 := (hb4.cell (p := ⟨w.heap.size + 1 + 1, 1, none⟩) (by assumption)).trans (by assumption : _ = some (Value.string xb))); (try have q5 := (hb4.frozen (p := ⟨w.heap.size, 1, none⟩) (by assumption)).trans (fs 1)); (try have q6 := (hb4.cell (p := ⟨w.heap.size, 1, none⟩) (by assumption)).trans (by assumption : _ = some (Value.slice A' m2 c'))); have q7 := hb4.size) | (refine step_own rfl _ _ 22 rfl _ 43 i0 (.agg #[.string ⟨#[]⟩, .string ⟨#[]⟩]) 2 32 Try.underlying22 HI.out HZ0.out HZ1.out HZ2.out rfl (by decide) _ _ _ rfl (by first | exact hown | exact hown.alloc _) _ 1 1 [.string xn, .string xb] rfl rfl (by intro j u hj; match j, hj with | 0, hj | 1, hj => (simp at hj; subst hj; first | (simp [Addr.add]; done) | (refine (hb4.cell (by simp [Addr.add])).trans ?_; simp [Addr.add]))) (by intro u hu; simp at hu; rcases hu with rfl | rfl <;> rfl) (by unfold maxLen; omega) (by omega) (by have q7 := hb4.size; simp at q7 ⊢; omega) ?_; intro v5 W5 hown5 hgrow5 _; obtain ⟨A5, c5, rfl⟩ := own_slice hown5; have BG : Below w8.heap.size w8 W5 := (by first | exact bUndrew ((bel_alloc hb4 _).grown hgrow5 (by have q7 := hb4.size; simp at q7 ⊢; try omega) (fun q hq => by have := (hown.lt _ hq).1; simp at this ⊢; omega)) | exact ((belA (Below.refl _ _) (bUndrew hb4)).grown hgrow5 (by have q7 := hb4.size; simp at q7 ⊢; try omega) (fun q hq => by have := (hown.lt _ hq).1; simp at this ⊢; omega))); have q8 := (BG.cell (p := ⟨w.heap.size, 1, none⟩) zs).trans xs1; have q9 := (BG.frozen (p := ⟨w.heap.size, 1, none⟩) zs).trans (fs 1)))
          all_goals
            have BG' := Lib.hid BG
            have P2 := (Below.heap_setCell W5 ⟨w.heap.size, 1, none⟩ (.slice A5 (m2 + 1) c5) (w.heap.size + 1) (by simp; try omega)).trans (heap_below Blz.out BG)
            have P0 := blk_set (heap_below Bls.out BG) 1 (.slice A5 (m2 + 1) c5)
            have BS := Lib.hid ((bThen BB10.out BG).setCell (p := ⟨w.heap.size, 1, none⟩) (Nat.le_refl _) (.slice A5 (m2 + 1) c5))
            have hsz4 := hb4.size
            have hzz := blk_lt Blc.out
            have HO5 := Lib.hid (own_base (own_set hown5 (p := ⟨w.heap.size, 1, none⟩) (by show w.heap.size < _; simp; try omega) (.slice A5 (m2 + 1) c5)) (by show w.heap.size + 1 + 1 + 1 ≤ _; simp; try omega))
            clear BG q8 q9 hown5 hgrow5 hb4 hown hsz4 hzz
            simp at P0
            generalize W5.setCell ⟨w.heap.size, 1, none⟩ (.slice A5 (m2 + 1) c5) = W6 at *
            have ys0 := cellsAt P0 0
            have ys1 := cellsAt P0 1
            have ys2 := cellsAt P0 2
            have yz0 := cellsAt P2 0
            have yz1 := cellsAt P2 1
            have yz2 := cellsAt P2 2
            have fz' := frozAt P2
            simp at ys0 ys1 ys2 yz0 yz1 yz2
            have zz2 := blk_lt P2
            go_wp2_with fail
            have Ez := set3 P2 (.slice A m c) (.slice A5 (m2 + 1) c5) (.bool false)
            have BE := Lib.hid (bel3 BS.out (g := w.heap.size + 1) (by omega) (.slice A m c) (.slice A5 (m2 + 1) c5) (.bool false))
            have HO6 := Lib.hid (own3 HO5.out (g := w.heap.size + 1) (by show w.heap.size + 1 < _; omega) (.slice A m c) (.slice A5 (m2 + 1) c5) (.bool false))
            clear ys0 ys1 ys2 yz0 yz1 yz2 fz' P0 P2
            generalize (((W6.setCell ⟨w.heap.size + 1, 0, none⟩ (.slice A m c)).setCell ⟨w.heap.size + 1, 1, none⟩ (.slice A5 (m2 + 1) c5)).setCell ⟨w.heap.size + 1, 2, none⟩ (.bool false)) = W7 at *
            have e0 := cellsAt Ez 0
            have e1 := cellsAt Ez 1
            have e2 := cellsAt Ez 2
            simp at e0 e1 e2
            have hok : ∀ y ∈ lf ++ [(⟨xn, xb⟩ : Cl)], y.Ok := by
              intro y hy
              rcases List.mem_append.1 hy with h | h
              · exact OKF.out y h
              · simp at h; subst h; exact HXO.out
            have hat : StAt W7 (.agg #[.slice A m c, .slice A5 (m2 + 1) c5, .bool false]) ⟨lc, lf ++ [⟨xn, xb⟩], false⟩ := ⟨_, _, rfl, HV.out.below BE.out, ⟨Row.of_own Cl.cs_len (n := m2 + 1) (by rw [List.flatMap_append]; exact HO6.out) (by simp [Hm2.out]), hok, by show (lf ++ [_]).length ≤ _; rw [List.length_append, Hm2.out]; simp; omega⟩⟩
            exact bodyPost_ret (v := .tuple #[.agg #[.slice A m c, .slice A5 (m2 + 1) c5, .bool false], .int .i64 0]) (by simp [results, Try.results19, go_sem, e0, e1, e2]) rfl ⟨_, by rw [HRR.out], by rw [HRR.out]; exact hat, BE.out⟩
set_option maxHeartbeats 1000000 in
set_option maxRecDepth 100000 in
theorem alive_any (w : World) : Calls Try.prog 12 #[] w fun e w' => e = .returned (.bool true) ∧ Below w.heap.size w w' := by
  have HW := Lib.hid (fun W => write_any zS ⟨⟨#[97]⟩, ⟨#[120]⟩⟩ ⟨by decide, by decide⟩ _ W (zS_at W))
  have HE : writeS zS ⟨⟨#[97]⟩, ⟨#[120]⟩⟩ = (⟨[], [⟨⟨#[97]⟩, ⟨#[120]⟩⟩], false⟩, 0) := by
    unfold writeS
    have h1 : rightB zS.c zS.f = true := rfl
    have h2 : mayC ⟨⟨#[97]⟩, ⟨#[120]⟩⟩ = true := by unfold mayC; rw [noB_size]; rfl
    rw [if_pos (by rw [h1, h2]; rfl), if_neg (by simp [zS]), if_neg (by simp [zS])]
    rfl
  rw [HE] at HW
  clear HE
  go_enter Try.func12, Try.ntmps12
  go_wp2_with fail
  refine (HW.out _).mono ?_
  rintro e w1 ⟨v, rfl, hs, hb⟩
  obtain ⟨A1, c1, A2, c2, rfl, -, -⟩ := hs.form
  have HB := Lib.hid hb
  clear hb hs
  go_wp2_with fail
  go_ret
  exact ⟨rfl, bel_alloc HB.out _⟩
/-- A store, as it came in. -/
def StIn (W : World) (v : Value) (s : St) : Prop := ∃ vc vf, v = .agg #[vc, vf, .bool s.d] ∧ Row Cl.cs 2 W vc s.c ∧ Row Cl.cs 2 W vf s.f ∧ (∀ x ∈ s.c, x.Ok) ∧ (∀ x ∈ s.f, x.Ok) ∧ s.c.length ≤ maxLen ∧ s.f.length ≤ maxLen
def smallS (s : St) : Bool := decide (s.c.length ≤ 100) && decide (s.f.length ≤ 100)
theorem StIn.small {W : World} {v : Value} {s : St} (h : StIn W v s) (hs : smallS s = true) : StAt W v s := by
  obtain ⟨vc, vf, e, h1, h2, h3, h4, -, -⟩ := h
  unfold smallS at hs
  simp at hs
  exact ⟨vc, vf, e, ⟨h1, h3, by omega⟩, ⟨h2, h4, by omega⟩⟩
set_option maxHeartbeats 1000000 in
theorem small_any (s : St) (v : Value) (w : World) (hs : StIn w v s) (q : Bool) (hq : smallS s = q) :
    Calls Try.prog 10 #[v] w fun e w' => e = .returned (.bool q) ∧ Below w.heap.size w w' := by
  obtain ⟨lc, lf, d⟩ := s
  obtain ⟨vc, vf, rfl, h1, h2, -, -, h3, h4⟩ := hs
  obtain ⟨A, c, rfl, -⟩ := h1
  obtain ⟨A', c', rfl, -⟩ := h2
  unfold smallS at hq
  unfold maxLen at h3 h4
  simp only at hq h3 h4 ⊢
  obtain ⟨m, hm⟩ : ∃ m, lc.length = m := ⟨_, rfl⟩
  obtain ⟨m2, hm2⟩ : ∃ m, lf.length = m := ⟨_, rfl⟩
  rw [hm] at hq h3 ⊢
  rw [hm2] at hq h4 ⊢
  clear hm hm2
  have H3 := Lib.hid h3
  have H4 := Lib.hid h4
  clear h3 h4
  by_cases h1 : m ≤ 100
  · rw [decide_eq_true h1, Bool.true_and] at hq
    have hq2 : decide ((m2 : Int) ≤ 100) = q := by rw [← hq, Bool.eq_iff_iff, decide_eq_true_eq, decide_eq_true_eq]; omega
    have HQ := Lib.hid hq2
    clear hq hq2
    go_enter Try.func10, Try.ntmps10
    go_wp2_with fail
    go_ret
    exact ⟨by rw [← HQ.out]; rfl, bel_alloc (Below.refl _ _) _⟩
  · rw [decide_eq_false h1, Bool.false_and] at hq
    subst hq
    go_enter Try.func10, Try.ntmps10
    go_wp2_with fail
    go_ret
    exact ⟨rfl, bel_alloc (Below.refl _ _) _⟩
set_option maxHeartbeats 1000000 in
theorem like_same (s : St) (v u : Value) (w : World) (hv : StAt w v s) (hu : StAt w u s) :
    Calls Try.prog 15 #[v, u] w fun e w' => e = .returned (.bool true) ∧ Below w.heap.size w w' := by
  obtain ⟨A1, c1, A2, c2, rfl, h1, h2⟩ := hv.form
  obtain ⟨A3, c3, A4, c4, rfl, h3, h4⟩ := hu.form
  have K1 := Lib.hid h1
  have K2 := Lib.hid h2
  have K3 := Lib.hid h3
  have K4 := Lib.hid h4
  clear hv hu h1 h2 h3 h4
  obtain ⟨lc, lf, d⟩ := s
  simp only at K1 K2 K3 K4 ⊢
  obtain ⟨m, hm⟩ : ∃ m, lc.length = m := ⟨_, rfl⟩
  obtain ⟨m2, hm2⟩ : ∃ m, lf.length = m := ⟨_, rfl⟩
  rw [hm] at K1 K3 ⊢
  rw [hm2] at K2 K4 ⊢
  clear hm hm2
  go_enter Try.func15, Try.ntmps15
  go_wp2_with fail
  obtain ⟨W1, hW1⟩ : ∃ X, X = (w.alloc (.cells #[.slice A1 m c1, .slice A2 m2 c2, .bool d] 24)).alloc (.cells #[.slice A3 m c3, .slice A4 m2 c4, .bool d] 24) := ⟨_, rfl⟩
  rw [← hW1]
  have hb : Below w.heap.size w W1 := by rw [hW1]; exact bel_alloc (bel_alloc (Below.refl _ _) _) _
  have N1 := show W1.heap[w.heap.size]? = some (.cells #[.slice A1 m c1, .slice A2 m2 c2, .bool d] 24 (0, 0)) by rw [hW1]; exact heap_below (heap_at w _ _ rfl) (bel_alloc (Below.refl _ _) _)
  have N2 := show W1.heap[w.heap.size + 1]? = some (.cells #[.slice A3 m c3, .slice A4 m2 c4, .bool d] 24 (0, 0)) by rw [hW1]; exact heap_at _ _ _ (by simp)
  clear hW1
  have B1 := Lib.hid hb
  refine (likeC_same lc _ _ _ (K1.out.below hb).1 (K3.out.below hb).1 K1.out.2.2).mono ?_
  rintro e w2 ⟨rfl, hb2⟩
  have M1 := heap_below N1 hb2
  have M2 := heap_below N2 hb2
  have B2 := Lib.hid (bThen hb hb2)
  clear hb hb2 N1 N2
  have z1 := blk_lt M1
  have z2 := blk_lt M2
  have x1 := cellsAt M1 1
  have y1 := cellsAt M2 1
  simp at x1 y1
  go_wp2_with fail
  refine (likeC_same lf _ _ _ (K2.out.below B2.out).1 (K4.out.below B2.out).1 K2.out.2.2).mono ?_
  rintro e w3 ⟨rfl, hb3⟩
  have B3 := Lib.hid (bThen B2.out hb3)
  clear hb3 M1 M2 z1 z2 x1 y1
  go_wp2_with fail
  go_ret
  exact ⟨rfl, B3.out⟩
end Go.Proofs.Ytlboehpgpbchhaa
