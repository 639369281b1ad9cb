/-
  WALKS of layer 18: the law AlignOffers.
-/
import Derived.Test.YtenpgkkefielfaaAlignW27
import Derived.Test.YtenpgkkefielfaaAlignW21
set_option linter.unusedVariables false
set_option linter.unusedSimpArgs false
namespace Go.Proofs.Ytenpgkkefielfaa
open Go.RowKit

theorem ofer_late (a : Aln) (i : Int) (it : It) : (ofer a i it).late.length ≤ 1000000 := by
  unfold ofer
  split
  · rename_i h
    simp only [Bool.and_eq_true] at h
    have hr : rightA a = true := by
      have := h.1
      unfold hasA at this
      exact (of_decide_eq_true this).1
    have hp := right_parts hr
    split
    · split <;> exact Nat.zero_le _
    · split
      · split
        · exact Nat.zero_le _
        · split
          · exact Nat.zero_le _
          · have := lateTo_len hp.2.2 a.held.length (Nat.le_refl _)
            show (lateTo a.held a.held.length).length ≤ _
            omega
      · exact Nat.zero_le _
  · exact Nat.zero_le _
set_option maxRecDepth 100000 in
set_option maxHeartbeats 4000000 in
theorem offers_walk (a : Aln) (i : Int) (hi : wfL i) (it : It) (hwf : it.Wf) (va : Value) (w : World) (ha : AlAt w va a) :
    Calls Try.prog 7 #[va, .int .i64 i, itV it] w fun e w' => e = .returned (.bool true) ∧ Below w.heap.size w w' := by
  have HV := Lib.hid ha
  have HS := Lib.hid (fun v W hW => asmall_any a v W hW)
  have HO := Lib.hid (fun v W hW => offer_any a i hi it hwf v W hW)
  have HR := Lib.hid (fun v W hW => roffer_any a i hi it hwf v W hW)
  have HLL := Lib.hid (ofer_late a i it)
  obtain ⟨R, hR⟩ : ∃ R, ofer a i it = R := ⟨_, rfl⟩
  rw [hR] at HO HR HLL
  obtain ⟨Ag, cg, Ah, ch, rfl, -, -, -, hwn, hlg, hlh⟩ := al_form ha
  obtain ⟨lg, hlg'⟩ : ∃ n, a.got.length = n := ⟨_, rfl⟩
  obtain ⟨lh, hlh'⟩ : ∃ n, a.held.length = n := ⟨_, rfl⟩
  rw [hlg', hlh'] at HV
  rw [hlg', hlh']
  clear ha hlg' hlh' hwn hlg hlh hR hi hwf
  obtain ⟨j0, j1, j2, j3, j4, j5, j6, j7, j8, j9, j10⟩ := it
  unfold itV at HO HR ⊢
  obtain ⟨RA, RP, RD, RL, RE⟩ := R
  unfold OfTo at HO
  unfold RoTo at HR
  simp only at HO HR HLL
  go_enter Try.func7, Try.ntmps7
  go_wp2_with fail
  have KV := HV
  obtain ⟨W1, hW2⟩ : ∃ X, X = ((w).alloc (.cells #[.int .i64 a.n, .slice Ag lg cg, .slice Ah lh ch] 26)).alloc (.cells #[.int .i64 j0, .string j1, .int .i64 j2, .int .i64 j3, .int .i64 j4, .int .i64 j5, .int .i64 j6, .int .i64 j7, .string j8, .int .i64 j9, .int .i64 j10] 43) := ⟨_, rfl⟩
  rw [← hW2]
  have hb3 : Below w.heap.size w W1 := by rw [hW2]; exact bel_alloc (bel_alloc (Below.refl _ _) _) _
  have Na := Lib.hid (show W1.heap[w.heap.size]? = some (.cells #[.int .i64 a.n, .slice Ag lg cg, .slice Ah lh ch] 26 (0, 0)) by rw [hW2]; exact heap_below (heap_at (w) _ (w.heap.size) (by simp)) (bel_alloc (Below.refl _ _) _))
  have Ni := Lib.hid (show W1.heap[w.heap.size + 1]? = some (.cells #[.int .i64 j0, .string j1, .int .i64 j2, .int .i64 j3, .int .i64 j4, .int .i64 j5, .int .i64 j6, .int .i64 j7, .string j8, .int .i64 j9, .int .i64 j10] 43 (0, 0)) by rw [hW2]; exact heap_at ((w).alloc (.cells #[.int .i64 a.n, .slice Ag lg cg, .slice Ah lh ch] 26)) _ (w.heap.size + 1) (by simp))
  clear hW2
  have Z := Lib.hid (AlAt.below KV.out hb3)
  clear KV
  have KV := Z
  clear Z
  have BB4 := Lib.hid hb3
  clear hb3
  have Bla := Na
  clear Na
  have Bli := Ni
  clear Ni
  have za := blk_lt Bla.out
  have xa0 := cellsAt Bla.out 0
  have xa1 := cellsAt Bla.out 1
  have xa2 := cellsAt Bla.out 2
  have fa := frozAt Bla.out
  simp at xa0 xa1 xa2
  have zi := blk_lt Bli.out
  have xi0 := cellsAt Bli.out 0
  have xi1 := cellsAt Bli.out 1
  have xi2 := cellsAt Bli.out 2
  have xi3 := cellsAt Bli.out 3
  have xi4 := cellsAt Bli.out 4
  have xi5 := cellsAt Bli.out 5
  have xi6 := cellsAt Bli.out 6
  have xi7 := cellsAt Bli.out 7
  have xi8 := cellsAt Bli.out 8
  have xi9 := cellsAt Bli.out 9
  have xi10 := cellsAt Bli.out 10
  have fi := frozAt Bli.out
  simp at xi0 xi1 xi2 xi3 xi4 xi5 xi6 xi7 xi8 xi9 xi10
  refine (HS.out _ _ KV.out).mono ?_
  rintro e w5 ⟨⟨qs, rfl⟩, hb6⟩
  clear za fa xa0 xa1 xa2 zi fi xi0 xi1 xi2 xi3 xi4 xi5 xi6 xi7 xi8 xi9 xi10
  have Z := Lib.hid (heap_below Bla.out hb6)
  clear Bla
  have Bla := Z
  clear Z
  have Z := Lib.hid (heap_below Bli.out hb6)
  clear Bli
  have Bli := Z
  clear Z
  have Z := Lib.hid (AlAt.below KV.out hb6)
  clear KV
  have KV := Z
  clear Z
  have BB7 := Lib.hid (bThen BB4.out hb6)
  clear hb6
  have za := blk_lt Bla.out
  have xa0 := cellsAt Bla.out 0
  have xa1 := cellsAt Bla.out 1
  have xa2 := cellsAt Bla.out 2
  have fa := frozAt Bla.out
  simp at xa0 xa1 xa2
  have zi := blk_lt Bli.out
  have xi0 := cellsAt Bli.out 0
  have xi1 := cellsAt Bli.out 1
  have xi2 := cellsAt Bli.out 2
  have xi3 := cellsAt Bli.out 3
  have xi4 := cellsAt Bli.out 4
  have xi5 := cellsAt Bli.out 5
  have xi6 := cellsAt Bli.out 6
  have xi7 := cellsAt Bli.out 7
  have xi8 := cellsAt Bli.out 8
  have xi9 := cellsAt Bli.out 9
  have xi10 := cellsAt Bli.out 10
  have fi := frozAt Bli.out
  simp at xi0 xi1 xi2 xi3 xi4 xi5 xi6 xi7 xi8 xi9 xi10
  cases qs with
  | false =>
    go_wp2_with fail
    go_ret
    exact ⟨rfl, BB7.out⟩
  | true =>
    go_wp2_with fail
    refine (HO.out _ _ KV.out).mono ?_
    rintro e w8 ⟨⟨v2, a2, vl, rfl, ha2, hl2, -, hrow⟩, hb9⟩
    clear za fa xa0 xa1 xa2 zi fi xi0 xi1 xi2 xi3 xi4 xi5 xi6 xi7 xi8 xi9 xi10
    have Z := Lib.hid (heap_below Bla.out hb9)
    clear Bla
    have Bla := Z
    clear Z
    have Z := Lib.hid (heap_below Bli.out hb9)
    clear Bli
    have Bli := Z
    clear Z
    have Z := Lib.hid (AlAt.below KV.out hb9)
    clear KV
    have KV := Z
    clear Z
    have BB10 := Lib.hid (bThen BB7.out hb9)
    clear hb9
    obtain ⟨B1, d3, B2, d4, rfl⟩ := al_form5 ha2
    have KB := Lib.hid ha2
    have HLK := Lib.hid hl2
    have HRW := Lib.hid hrow
    obtain ⟨Al, cl, rfl, -⟩ := hrow
    clear ha2 hl2
    have za := blk_lt Bla.out
    have xa0 := cellsAt Bla.out 0
    have xa1 := cellsAt Bla.out 1
    have xa2 := cellsAt Bla.out 2
    have fa := frozAt Bla.out
    simp at xa0 xa1 xa2
    have zi := blk_lt Bli.out
    have xi0 := cellsAt Bli.out 0
    have xi1 := cellsAt Bli.out 1
    have xi2 := cellsAt Bli.out 2
    have xi3 := cellsAt Bli.out 3
    have xi4 := cellsAt Bli.out 4
    have xi5 := cellsAt Bli.out 5
    have xi6 := cellsAt Bli.out 6
    have xi7 := cellsAt Bli.out 7
    have xi8 := cellsAt Bli.out 8
    have xi9 := cellsAt Bli.out 9
    have xi10 := cellsAt Bli.out 10
    have fi := frozAt Bli.out
    simp at xi0 xi1 xi2 xi3 xi4 xi5 xi6 xi7 xi8 xi9 xi10
    go_upto_region 4 with fail
    obtain ⟨W11, hW12⟩ : ∃ X, X = (w8).alloc (.cells #[.int .i64 a2.n, .slice B1 a2.got.length d3, .slice B2 a2.held.length d4] 26) := ⟨_, rfl⟩
    rw [← hW12]
    have hb13 : Below w8.heap.size w8 W11 := by rw [hW12]; exact bel_alloc (Below.refl _ _) _
    have Nx := Lib.hid (show W11.heap[w8.heap.size]? = some (.cells #[.int .i64 a2.n, .slice B1 a2.got.length d3, .slice B2 a2.held.length d4] 26 (0, 0)) by rw [hW12]; exact heap_at (w8) _ (w8.heap.size) (by simp))
    clear hW12
    have Z := Lib.hid (heap_below Bla.out hb13)
    clear Bla
    have Bla := Z
    clear Z
    have Z := Lib.hid (heap_below Bli.out hb13)
    clear Bli
    have Bli := Z
    clear Z
    have Z := Lib.hid (AlAt.below KV.out hb13)
    clear KV
    have KV := Z
    clear Z
    have Z := Lib.hid (AlAt.below KB.out hb13)
    clear KB
    have KB := Z
    clear Z
    have Z := Lib.hid (Row.below HRW.out hb13)
    clear HRW
    have HRW := Z
    clear Z
    have BB14 := Lib.hid (bThen BB10.out hb13)
    clear hb13
    have Blx := Nx
    clear Nx
    clear za fa xa0 xa1 xa2 zi fi xi0 xi1 xi2 xi3 xi4 xi5 xi6 xi7 xi8 xi9 xi10
    have za := blk_lt Bla.out
    have xa0 := cellsAt Bla.out 0
    have xa1 := cellsAt Bla.out 1
    have xa2 := cellsAt Bla.out 2
    have fa := frozAt Bla.out
    simp at xa0 xa1 xa2
    have zi := blk_lt Bli.out
    have xi0 := cellsAt Bli.out 0
    have xi1 := cellsAt Bli.out 1
    have xi2 := cellsAt Bli.out 2
    have xi3 := cellsAt Bli.out 3
    have xi4 := cellsAt Bli.out 4
    have xi5 := cellsAt Bli.out 5
    have xi6 := cellsAt Bli.out 6
    have xi7 := cellsAt Bli.out 7
    have xi8 := cellsAt Bli.out 8
    have xi9 := cellsAt Bli.out 9
    have xi10 := cellsAt Bli.out 10
    have fi := frozAt Bli.out
    simp at xi0 xi1 xi2 xi3 xi4 xi5 xi6 xi7 xi8 xi9 xi10
    have zx := blk_lt Blx.out
    have xx0 := cellsAt Blx.out 0
    have xx1 := cellsAt Blx.out 1
    have xx2 := cellsAt Blx.out 2
    have fx := frozAt Blx.out
    simp at xx0 xx1 xx2
    go_wp2_with fail
    refine (HR.out _ _ KV.out).mono ?_
    rintro e w15 ⟨⟨x1, x2, x3, a3, vm, rfl, ha3, hl3, hrow3⟩, hb16⟩
    clear za fa xa0 xa1 xa2 zi fi xi0 xi1 xi2 xi3 xi4 xi5 xi6 xi7 xi8 xi9 xi10 zx fx xx0 xx1 xx2
    have Z := Lib.hid (heap_below Bla.out hb16)
    clear Bla
    have Bla := Z
    clear Z
    have Z := Lib.hid (heap_below Bli.out hb16)
    clear Bli
    have Bli := Z
    clear Z
    have Z := Lib.hid (heap_below Blx.out hb16)
    clear Blx
    have Blx := Z
    clear Z
    have Z := Lib.hid (AlAt.below KV.out hb16)
    clear KV
    have KV := Z
    clear Z
    have Z := Lib.hid (AlAt.below KB.out hb16)
    clear KB
    have KB := Z
    clear Z
    have Z := Lib.hid (Row.below HRW.out hb16)
    clear HRW
    have HRW := Z
    clear Z
    have BB17 := Lib.hid (bThen BB14.out hb16)
    clear hb16
    obtain ⟨C1, k3, C2, k4, hxe⟩ := al_form5 ha3
    simp at hxe
    obtain ⟨rfl, rfl, rfl⟩ := hxe
    have KC := Lib.hid ha3
    have HLC := Lib.hid hl3
    have HRC := Lib.hid hrow3
    obtain ⟨Am, cm, rfl, -⟩ := hrow3
    clear ha3 hl3
    go_upto_region 5 with fail
    obtain ⟨W18, hW19⟩ : ∃ X, X = (w15).alloc (.cells #[.int .i64 a3.n, .slice C1 a3.got.length k3, .slice C2 a3.held.length k4, .bool RP, .int .i64 RD, .slice Am RL.length cm, .int .i64 RE] 59) := ⟨_, rfl⟩
    rw [← hW19]
    have hb20 : Below w15.heap.size w15 W18 := by rw [hW19]; exact bel_alloc (Below.refl _ _) _
    have Ny := Lib.hid (show W18.heap[w15.heap.size]? = some (.cells #[.int .i64 a3.n, .slice C1 a3.got.length k3, .slice C2 a3.held.length k4, .bool RP, .int .i64 RD, .slice Am RL.length cm, .int .i64 RE] 59 (0, 0)) by rw [hW19]; exact heap_at (w15) _ (w15.heap.size) (by simp))
    clear hW19
    have Z := Lib.hid (heap_below Bla.out hb20)
    clear Bla
    have Bla := Z
    clear Z
    have Z := Lib.hid (heap_below Bli.out hb20)
    clear Bli
    have Bli := Z
    clear Z
    have Z := Lib.hid (heap_below Blx.out hb20)
    clear Blx
    have Blx := Z
    clear Z
    have Z := Lib.hid (AlAt.below KV.out hb20)
    clear KV
    have KV := Z
    clear Z
    have Z := Lib.hid (AlAt.below KB.out hb20)
    clear KB
    have KB := Z
    clear Z
    have Z := Lib.hid (Row.below HRW.out hb20)
    clear HRW
    have HRW := Z
    clear Z
    have Z := Lib.hid (AlAt.below KC.out hb20)
    clear KC
    have KC := Z
    clear Z
    have Z := Lib.hid (Row.below HRC.out hb20)
    clear HRC
    have HRC := Z
    clear Z
    have BB21 := Lib.hid (bThen BB17.out hb20)
    clear hb20
    have Bly := Ny
    clear Ny
    go_wp2_with fail
    refine (aalive_any _).mono ?_
    rintro e w22 ⟨rfl, hb23⟩
    have Z := Lib.hid (heap_below Bla.out hb23)
    clear Bla
    have Bla := Z
    clear Z
    have Z := Lib.hid (heap_below Bli.out hb23)
    clear Bli
    have Bli := Z
    clear Z
    have Z := Lib.hid (heap_below Blx.out hb23)
    clear Blx
    have Blx := Z
    clear Z
    have Z := Lib.hid (heap_below Bly.out hb23)
    clear Bly
    have Bly := Z
    clear Z
    have Z := Lib.hid (AlAt.below KV.out hb23)
    clear KV
    have KV := Z
    clear Z
    have Z := Lib.hid (AlAt.below KB.out hb23)
    clear KB
    have KB := Z
    clear Z
    have Z := Lib.hid (Row.below HRW.out hb23)
    clear HRW
    have HRW := Z
    clear Z
    have Z := Lib.hid (AlAt.below KC.out hb23)
    clear KC
    have KC := Z
    clear Z
    have Z := Lib.hid (Row.below HRC.out hb23)
    clear HRC
    have HRC := Z
    clear Z
    have BB24 := Lib.hid (bThen BB21.out hb23)
    clear hb23
    have zx := blk_lt Blx.out
    have xx0 := cellsAt Blx.out 0
    have xx1 := cellsAt Blx.out 1
    have xx2 := cellsAt Blx.out 2
    have fx := frozAt Blx.out
    simp at xx0 xx1 xx2
    have zy := blk_lt Bly.out
    have xy0 := cellsAt Bly.out 0
    have xy1 := cellsAt Bly.out 1
    have xy2 := cellsAt Bly.out 2
    have xy3 := cellsAt Bly.out 3
    have xy4 := cellsAt Bly.out 4
    have xy5 := cellsAt Bly.out 5
    have xy6 := cellsAt Bly.out 6
    have fy := frozAt Bly.out
    simp at xy0 xy1 xy2 xy3 xy4 xy5 xy6
    go_wp2_with fail
    have HAB := like_trans (likeA_symm HLK.out) HLC.out
    refine (alike_any a2 a3 HAB _ _ _ KB.out KC.out).mono ?_
    rintro e w25 ⟨rfl, hb26⟩
    clear zx fx xx0 xx1 xx2 zy fy xy0 xy1 xy2 xy3 xy4 xy5 xy6
    have Z := Lib.hid (heap_below Bla.out hb26)
    clear Bla
    have Bla := Z
    clear Z
    have Z := Lib.hid (heap_below Bli.out hb26)
    clear Bli
    have Bli := Z
    clear Z
    have Z := Lib.hid (heap_below Blx.out hb26)
    clear Blx
    have Blx := Z
    clear Z
    have Z := Lib.hid (heap_below Bly.out hb26)
    clear Bly
    have Bly := Z
    clear Z
    have Z := Lib.hid (AlAt.below KV.out hb26)
    clear KV
    have KV := Z
    clear Z
    have Z := Lib.hid (AlAt.below KB.out hb26)
    clear KB
    have KB := Z
    clear Z
    have Z := Lib.hid (Row.below HRW.out hb26)
    clear HRW
    have HRW := Z
    clear Z
    have Z := Lib.hid (AlAt.below KC.out hb26)
    clear KC
    have KC := Z
    clear Z
    have Z := Lib.hid (Row.below HRC.out hb26)
    clear HRC
    have HRC := Z
    clear Z
    have BB27 := Lib.hid (bThen BB24.out hb26)
    clear hb26
    have zx := blk_lt Blx.out
    have xx0 := cellsAt Blx.out 0
    have xx1 := cellsAt Blx.out 1
    have xx2 := cellsAt Blx.out 2
    have fx := frozAt Blx.out
    simp at xx0 xx1 xx2
    have zy := blk_lt Bly.out
    have xy0 := cellsAt Bly.out 0
    have xy1 := cellsAt Bly.out 1
    have xy2 := cellsAt Bly.out 2
    have xy3 := cellsAt Bly.out 3
    have xy4 := cellsAt Bly.out 4
    have xy5 := cellsAt Bly.out 5
    have xy6 := cellsAt Bly.out 6
    have fy := frozAt Bly.out
    simp at xy0 xy1 xy2 xy3 xy4 xy5 xy6
    have p1 : (RP == RP) = true := by simp
    have p2 : (RD == RD) = true := by simp
    have p3 : (RE == RE) = true := by simp
    go_wp2_with fail
    refine (likeLt_any RL _ _ _ HRW.out HRC.out HLL.out).mono ?_
    rintro e w99 ⟨rfl, nq, rfl⟩
    obtain ⟨W28, hW29⟩ : ∃ X, X = w25.drewN nq := ⟨_, rfl⟩
    rw [← hW29]
    have hb30 : Below w25.heap.size w25 W28 := by rw [hW29]; exact bDrewN (Below.refl _ _)
    clear hW29
    clear zx fx xx0 xx1 xx2 zy fy xy0 xy1 xy2 xy3 xy4 xy5 xy6
    have Z := Lib.hid (heap_below Bla.out hb30)
    clear Bla
    have Bla := Z
    clear Z
    have Z := Lib.hid (heap_below Bli.out hb30)
    clear Bli
    have Bli := Z
    clear Z
    have Z := Lib.hid (heap_below Blx.out hb30)
    clear Blx
    have Blx := Z
    clear Z
    have Z := Lib.hid (heap_below Bly.out hb30)
    clear Bly
    have Bly := Z
    clear Z
    have Z := Lib.hid (AlAt.below KV.out hb30)
    clear KV
    have KV := Z
    clear Z
    have Z := Lib.hid (AlAt.below KB.out hb30)
    clear KB
    have KB := Z
    clear Z
    have Z := Lib.hid (Row.below HRW.out hb30)
    clear HRW
    have HRW := Z
    clear Z
    have Z := Lib.hid (AlAt.below KC.out hb30)
    clear KC
    have KC := Z
    clear Z
    have Z := Lib.hid (Row.below HRC.out hb30)
    clear HRC
    have HRC := Z
    clear Z
    have BB31 := Lib.hid (bThen BB27.out hb30)
    clear hb30
    have zx := blk_lt Blx.out
    have xx0 := cellsAt Blx.out 0
    have xx1 := cellsAt Blx.out 1
    have xx2 := cellsAt Blx.out 2
    have fx := frozAt Blx.out
    simp at xx0 xx1 xx2
    have zy := blk_lt Bly.out
    have xy0 := cellsAt Bly.out 0
    have xy1 := cellsAt Bly.out 1
    have xy2 := cellsAt Bly.out 2
    have xy3 := cellsAt Bly.out 3
    have xy4 := cellsAt Bly.out 4
    have xy5 := cellsAt Bly.out 5
    have xy6 := cellsAt Bly.out 6
    have fy := frozAt Bly.out
    simp at xy0 xy1 xy2 xy3 xy4 xy5 xy6
    go_wp2_with fail
    go_ret
    exact ⟨rfl, BB31.out⟩
end Go.Proofs.Ytenpgkkefielfaa
