/-
  WALKS of layer 10: what an act makes, on both sides.
-/
import Derived.Test.YtdanfeldbdooeaaMarkW21
import Derived.Deep.DeepCutAuto
set_option linter.unusedVariables false
set_option linter.unusedSimpArgs false
namespace Go.Proofs.Ytdanfeldbdooeaa
open Go.RowKit

theorem rowDrew {α : Type} {enc : α → List Value} {k : Nat} {W : World} {v : Value} {l : List α} (h : Row enc k W v l) : Row enc k W.drew v l := h
set_option maxRecDepth 100000 in
set_option maxHeartbeats 4000000 in
theorem do_any (li : List Inp) (lh : List Hld) (o what no t : Int) (v : Value) (w : World) (h : MarksAt w v li lh o) (l2 : lh.length ≤ 900000) :
    Calls Try.prog 14 #[v, .agg #[.int .i64 what, .int .i64 no, .int .i64 t]] w (DoTo (doM li lh o what no t) w) := by
  have HM := Lib.hid h
  obtain ⟨vi, vh, rfl, r1, r2, -⟩ := h
  have HS := Lib.hid (fun v W (hm : MarksAt W v li lh o) => And.intro (mset_any li lh o no t v W hm) (rset_any li lh o no t v W hm))
  have HI := Lib.hid (fun v W (hm : MarksAt W v li lh o) => And.intro (midle_any li lh o no v W hm) (ridle_any li lh o no v W hm))
  have HH := Lib.hid (fun v W (hm : MarksAt W v li lh o) => And.intro (hold_any li lh o no t v W hm) (rhold_any li lh o no t v W hm l2))
  have HF := Lib.hid (fun v W (hm : MarksAt W v li lh o) => And.intro (free_any li lh o no v W hm) (rfree_any li lh o no v W hm l2))
  obtain ⟨A1, q1, rfl, -⟩ := r1
  obtain ⟨A2, q2, rfl, -⟩ := r2
  obtain ⟨R, hR⟩ : ∃ R, doM li lh o what no t = R := ⟨_, rfl⟩
  have HO := Lib.hid hR
  rw [hR]
  clear hR
  go_enter Try.func14, Try.ntmps14
  go_upto_region 6 with fail
  obtain ⟨W1, hW2⟩ : ∃ X, X = ((((((w).alloc (.cells #[.slice A1 li.length q1, .slice A2 lh.length q2, .int .i64 o] 25)).alloc (.cells #[.int .i64 what, .int .i64 no, .int .i64 t] 27)).alloc (.cells #[.slice none 0 0, .slice none 0 0, .int .i64 0] 25)).alloc (.cells #[.slice none 0 0, .slice none 0 0, .int .i64 0] 25)).alloc (.cells #[.slice none 0 0, .slice none 0 0, .int .i64 0] 25)).alloc (.cells #[.slice none 0 0, .slice none 0 0, .int .i64 0] 25) := ⟨_, rfl⟩
  rw [← hW2]
  have hb3 : Below w.heap.size w W1 := by rw [hW2]; exact bel_alloc (bel_alloc (bel_alloc (bel_alloc (bel_alloc (bel_alloc (Below.refl _ _) _) _) _) _) _) _
  have Ns := Lib.hid (show W1.heap[w.heap.size]? = some (.cells #[.slice A1 li.length q1, .slice A2 lh.length q2, .int .i64 o] 25 (0, 0)) by rw [hW2]; exact heap_below (heap_at (w) _ (w.heap.size) (by simp)) (bel_alloc (bel_alloc (bel_alloc (bel_alloc (bel_alloc (Below.refl _ _) _) _) _) _) _))
  have Na := Lib.hid (show W1.heap[w.heap.size + 1]? = some (.cells #[.int .i64 what, .int .i64 no, .int .i64 t] 27 (0, 0)) by rw [hW2]; exact heap_below (heap_at ((w).alloc (.cells #[.slice A1 li.length q1, .slice A2 lh.length q2, .int .i64 o] 25)) _ (w.heap.size + 1) (by simp)) (bel_alloc (bel_alloc (bel_alloc (bel_alloc (Below.refl _ _) _) _) _) _))
  have Nu := Lib.hid (show W1.heap[w.heap.size + 1 + 1]? = some (.cells #[.slice none 0 0, .slice none 0 0, .int .i64 0] 25 (0, 0)) by rw [hW2]; exact heap_below (heap_at (((w).alloc (.cells #[.slice A1 li.length q1, .slice A2 lh.length q2, .int .i64 o] 25)).alloc (.cells #[.int .i64 what, .int .i64 no, .int .i64 t] 27)) _ (w.heap.size + 1 + 1) (by simp)) (bel_alloc (bel_alloc (bel_alloc (Below.refl _ _) _) _) _))
  have Ny := Lib.hid (show W1.heap[w.heap.size + 1 + 1 + 1]? = some (.cells #[.slice none 0 0, .slice none 0 0, .int .i64 0] 25 (0, 0)) by rw [hW2]; exact heap_below (heap_at ((((w).alloc (.cells #[.slice A1 li.length q1, .slice A2 lh.length q2, .int .i64 o] 25)).alloc (.cells #[.int .i64 what, .int .i64 no, .int .i64 t] 27)).alloc (.cells #[.slice none 0 0, .slice none 0 0, .int .i64 0] 25)) _ (w.heap.size + 1 + 1 + 1) (by simp)) (bel_alloc (bel_alloc (Below.refl _ _) _) _))
  have Nx := Lib.hid (show W1.heap[w.heap.size + 1 + 1 + 1 + 1]? = some (.cells #[.slice none 0 0, .slice none 0 0, .int .i64 0] 25 (0, 0)) by rw [hW2]; exact heap_below (heap_at (((((w).alloc (.cells #[.slice A1 li.length q1, .slice A2 lh.length q2, .int .i64 o] 25)).alloc (.cells #[.int .i64 what, .int .i64 no, .int .i64 t] 27)).alloc (.cells #[.slice none 0 0, .slice none 0 0, .int .i64 0] 25)).alloc (.cells #[.slice none 0 0, .slice none 0 0, .int .i64 0] 25)) _ (w.heap.size + 1 + 1 + 1 + 1) (by simp)) (bel_alloc (Below.refl _ _) _))
  have Nk := Lib.hid (show W1.heap[w.heap.size + 1 + 1 + 1 + 1 + 1]? = some (.cells #[.slice none 0 0, .slice none 0 0, .int .i64 0] 25 (0, 0)) by rw [hW2]; exact heap_at ((((((w).alloc (.cells #[.slice A1 li.length q1, .slice A2 lh.length q2, .int .i64 o] 25)).alloc (.cells #[.int .i64 what, .int .i64 no, .int .i64 t] 27)).alloc (.cells #[.slice none 0 0, .slice none 0 0, .int .i64 0] 25)).alloc (.cells #[.slice none 0 0, .slice none 0 0, .int .i64 0] 25)).alloc (.cells #[.slice none 0 0, .slice none 0 0, .int .i64 0] 25)) _ (w.heap.size + 1 + 1 + 1 + 1 + 1) (by simp))
  clear hW2
  have BB4 := Lib.hid hb3
  clear hb3
  have Bls := Ns
  clear Ns
  have Bla := Na
  clear Na
  have Blu := Nu
  clear Nu
  have Bly := Ny
  clear Ny
  have Blx := Nx
  clear Nx
  have Blk := Nk
  clear Nk
  have hz5 := blk_lt Blk.out
  have zs := blk_lt Bls.out
  have xs0 := cellsAt Bls.out 0
  have xs1 := cellsAt Bls.out 1
  have xs2 := cellsAt Bls.out 2
  have fs := frozAt Bls.out
  simp at xs0 xs1 xs2
  have za := blk_lt Bla.out
  have xa0 := cellsAt Bla.out 0
  have xa1 := cellsAt Bla.out 1
  have xa2 := cellsAt Bla.out 2
  have fa := frozAt Bla.out
  simp at xa0 xa1 xa2
  by_cases h0 : what = 0
  · have tw : (what == 0) = true := by simpa using h0
    have tx : decide (what = 0) = true := by simpa using h0
    have HOF := HO.out
    unfold doM at HOF
    rw [if_pos h0] at HOF
    have HR0 := Lib.hid HOF
    clear HOF h0
    have HX := Lib.hid (fun v W (hm : MarksAt W v li lh o) => by have := HS.out v W hm; rw [HR0.out] at this; exact this)
    go_wp2_with fail
    refine (HX.out _ _ (HM.out.below BB4.out)).1.mono ?_
    rintro e w5 ⟨vi, vh, rfl, hri, hrh, hb6⟩
    have RI := Lib.hid hri
    have RH := Lib.hid hrh
    obtain ⟨B1, d1, rfl, -⟩ := hri
    obtain ⟨B2, d2, rfl, -⟩ := hrh
    clear zs fs xs0 xs1 xs2 za fa xa0 xa1 xa2
    have Z := Lib.hid (heap_below Bls.out hb6)
    clear Bls
    have Bls := Z
    clear Z
    have Z := Lib.hid (heap_below Bla.out hb6)
    clear Bla
    have Bla := Z
    clear Z
    have Z := Lib.hid (heap_below Blu.out hb6)
    clear Blu
    have Blu := Z
    clear Z
    have Z := Lib.hid (heap_below Bly.out hb6)
    clear Bly
    have Bly := Z
    clear Z
    have Z := Lib.hid (heap_below Blx.out hb6)
    clear Blx
    have Blx := Z
    clear Z
    have Z := Lib.hid (heap_below Blk.out hb6)
    clear Blk
    have Blk := Z
    clear Z
    have BB7 := Lib.hid (bThen BB4.out hb6)
    clear hb6
    have hz6 := blk_lt Blk.out
    have zx := blk_lt Blx.out
    have xx0 := cellsAt Blx.out 0
    have xx1 := cellsAt Blx.out 1
    have xx2 := cellsAt Blx.out 2
    have fx := frozAt Blx.out
    simp at xx0 xx1 xx2
    go_upto_region 8 with fail
    have Nx := Lib.hid (setC3 Blx.out (.slice B1 R.li.length d1) (.slice B2 R.lh.length d2) (.int .i64 R.o))
    have Ns := Lib.hid ((blkC3 w5 (w.heap.size + 4) (w.heap.size) (by omega) (.slice B1 R.li.length d1) (.slice B2 R.lh.length d2) (.int .i64 R.o)).trans Bls.out)
    have Na := Lib.hid ((blkC3 w5 (w.heap.size + 4) (w.heap.size + 1) (by omega) (.slice B1 R.li.length d1) (.slice B2 R.lh.length d2) (.int .i64 R.o)).trans Bla.out)
    have Nu := Lib.hid ((blkC3 w5 (w.heap.size + 4) (w.heap.size + 2) (by omega) (.slice B1 R.li.length d1) (.slice B2 R.lh.length d2) (.int .i64 R.o)).trans Blu.out)
    have Ny := Lib.hid ((blkC3 w5 (w.heap.size + 4) (w.heap.size + 3) (by omega) (.slice B1 R.li.length d1) (.slice B2 R.lh.length d2) (.int .i64 R.o)).trans Bly.out)
    have Nk := Lib.hid ((blkC3 w5 (w.heap.size + 4) (w.heap.size + 5) (by omega) (.slice B1 R.li.length d1) (.slice B2 R.lh.length d2) (.int .i64 R.o)).trans Blk.out)
    have NRI := Lib.hid (keepI Blx.out (.slice B1 R.li.length d1) (.slice B2 R.lh.length d2) (.int .i64 R.o) RI.out)
    have NRH := Lib.hid (keepH Blx.out (.slice B1 R.li.length d1) (.slice B2 R.lh.length d2) (.int .i64 R.o) RH.out)
    have NB := Lib.hid (belC3 BB7.out (g := w.heap.size + 4) (by omega) (.slice B1 R.li.length d1) (.slice B2 R.lh.length d2) (.int .i64 R.o))
    clear zx fx xx0 xx1 xx2
    clear Blx Bls Bla Blu Bly Blk RI RH BB7
    generalize (((w5).setCell ⟨w.heap.size + 1 + 1 + 1 + 1, 0, none⟩ (.slice B1 R.li.length d1)).setCell ⟨w.heap.size + 1 + 1 + 1 + 1, 1, none⟩ (.slice B2 R.lh.length d2)).setCell ⟨w.heap.size + 1 + 1 + 1 + 1, 2, none⟩ (.int .i64 R.o) = X8 at *
    have Blx := Nx
    clear Nx
    have Bls := Ns
    clear Ns
    have Bla := Na
    clear Na
    have Blu := Nu
    clear Nu
    have Bly := Ny
    clear Ny
    have Blk := Nk
    clear Nk
    have RI := NRI
    clear NRI
    have RH := NRH
    clear NRH
    have BB7 := NB
    clear NB
    have zs := blk_lt Bls.out
    have xs0 := cellsAt Bls.out 0
    have xs1 := cellsAt Bls.out 1
    have xs2 := cellsAt Bls.out 2
    have fs := frozAt Bls.out
    simp at xs0 xs1 xs2
    have za := blk_lt Bla.out
    have xa0 := cellsAt Bla.out 0
    have xa1 := cellsAt Bla.out 1
    have xa2 := cellsAt Bla.out 2
    have fa := frozAt Bla.out
    simp at xa0 xa1 xa2
    go_wp2_with fail
    refine (HX.out _ _ (HM.out.below BB7.out)).2.mono ?_
    rintro e w9 ⟨vi, vh, rfl, hri, hrh, hb10⟩
    have SI := Lib.hid hri
    have SH := Lib.hid hrh
    obtain ⟨C1, k1, rfl, -⟩ := hri
    obtain ⟨C2, k2, rfl, -⟩ := hrh
    clear zs fs xs0 xs1 xs2 za fa xa0 xa1 xa2
    have Z := Lib.hid (heap_below Bls.out hb10)
    clear Bls
    have Bls := Z
    clear Z
    have Z := Lib.hid (heap_below Bla.out hb10)
    clear Bla
    have Bla := Z
    clear Z
    have Z := Lib.hid (heap_below Blu.out hb10)
    clear Blu
    have Blu := Z
    clear Z
    have Z := Lib.hid (heap_below Bly.out hb10)
    clear Bly
    have Bly := Z
    clear Z
    have Z := Lib.hid (heap_below Blx.out hb10)
    clear Blx
    have Blx := Z
    clear Z
    have Z := Lib.hid (heap_below Blk.out hb10)
    clear Blk
    have Blk := Z
    clear Z
    have Z := Lib.hid (Row.below RI.out hb10)
    clear RI
    have RI := Z
    clear Z
    have Z := Lib.hid (Row.below RH.out hb10)
    clear RH
    have RH := Z
    clear Z
    have BB11 := Lib.hid (bThen BB7.out hb10)
    clear hb10
    have hz7 := blk_lt Blk.out
    have zk := blk_lt Blk.out
    have xk0 := cellsAt Blk.out 0
    have xk1 := cellsAt Blk.out 1
    have xk2 := cellsAt Blk.out 2
    have fk := frozAt Blk.out
    simp at xk0 xk1 xk2
    go_upto_region 15 with fail
    have Nk := Lib.hid (setC3 Blk.out (.slice C1 R.li.length k1) (.slice C2 R.lh.length k2) (.int .i64 R.o))
    have Ns := Lib.hid ((blkC3 w9 (w.heap.size + 5) (w.heap.size) (by omega) (.slice C1 R.li.length k1) (.slice C2 R.lh.length k2) (.int .i64 R.o)).trans Bls.out)
    have Na := Lib.hid ((blkC3 w9 (w.heap.size + 5) (w.heap.size + 1) (by omega) (.slice C1 R.li.length k1) (.slice C2 R.lh.length k2) (.int .i64 R.o)).trans Bla.out)
    have Nu := Lib.hid ((blkC3 w9 (w.heap.size + 5) (w.heap.size + 2) (by omega) (.slice C1 R.li.length k1) (.slice C2 R.lh.length k2) (.int .i64 R.o)).trans Blu.out)
    have Ny := Lib.hid ((blkC3 w9 (w.heap.size + 5) (w.heap.size + 3) (by omega) (.slice C1 R.li.length k1) (.slice C2 R.lh.length k2) (.int .i64 R.o)).trans Bly.out)
    have Nx := Lib.hid ((blkC3 w9 (w.heap.size + 5) (w.heap.size + 4) (by omega) (.slice C1 R.li.length k1) (.slice C2 R.lh.length k2) (.int .i64 R.o)).trans Blx.out)
    have NRI := Lib.hid (keepI Blk.out (.slice C1 R.li.length k1) (.slice C2 R.lh.length k2) (.int .i64 R.o) RI.out)
    have NRH := Lib.hid (keepH Blk.out (.slice C1 R.li.length k1) (.slice C2 R.lh.length k2) (.int .i64 R.o) RH.out)
    have NSI := Lib.hid (keepI Blk.out (.slice C1 R.li.length k1) (.slice C2 R.lh.length k2) (.int .i64 R.o) SI.out)
    have NSH := Lib.hid (keepH Blk.out (.slice C1 R.li.length k1) (.slice C2 R.lh.length k2) (.int .i64 R.o) SH.out)
    have NB := Lib.hid (belC3 BB11.out (g := w.heap.size + 5) (by omega) (.slice C1 R.li.length k1) (.slice C2 R.lh.length k2) (.int .i64 R.o))
    clear zk fk xk0 xk1 xk2
    clear Blk Bls Bla Blu Bly Blx RI RH SI SH BB11
    generalize (((w9).setCell ⟨w.heap.size + 1 + 1 + 1 + 1 + 1, 0, none⟩ (.slice C1 R.li.length k1)).setCell ⟨w.heap.size + 1 + 1 + 1 + 1 + 1, 1, none⟩ (.slice C2 R.lh.length k2)).setCell ⟨w.heap.size + 1 + 1 + 1 + 1 + 1, 2, none⟩ (.int .i64 R.o) = X12 at *
    have Blk := Nk
    clear Nk
    have Bls := Ns
    clear Ns
    have Bla := Na
    clear Na
    have Blu := Nu
    clear Nu
    have Bly := Ny
    clear Ny
    have Blx := Nx
    clear Nx
    have RI := NRI
    clear NRI
    have RH := NRH
    clear NRH
    have SI := NSI
    clear NSI
    have SH := NSH
    clear NSH
    have BB11 := NB
    clear NB
    have zx := blk_lt Blx.out
    have xx0 := cellsAt Blx.out 0
    have xx1 := cellsAt Blx.out 1
    have xx2 := cellsAt Blx.out 2
    have fx := frozAt Blx.out
    simp at xx0 xx1 xx2
    have zk := blk_lt Blk.out
    have xk0 := cellsAt Blk.out 0
    have xk1 := cellsAt Blk.out 1
    have xk2 := cellsAt Blk.out 2
    have fk := frozAt Blk.out
    simp at xk0 xk1 xk2
    have zu := blk_lt Blu.out
    have xu0 := cellsAt Blu.out 0
    have xu1 := cellsAt Blu.out 1
    have xu2 := cellsAt Blu.out 2
    have fu := frozAt Blu.out
    simp at xu0 xu1 xu2
    have zy := blk_lt Bly.out
    have xy0 := cellsAt Bly.out 0
    have xy1 := cellsAt Bly.out 1
    have xy2 := cellsAt Bly.out 2
    have fy := frozAt Bly.out
    simp at xy0 xy1 xy2
    go_region
    go_wp2_with fail
    have Nu := Lib.hid (setC3 Blu.out (.slice B1 R.li.length d1) (.slice B2 R.lh.length d2) (.int .i64 R.o))
    have Y1 := Lib.hid ((blkC3 X12 (w.heap.size + 1 + 1) (w.heap.size + 1 + 1 + 1) (by omega) (.slice B1 R.li.length d1) (.slice B2 R.lh.length d2) (.int .i64 R.o)).trans Bly.out)
    have NRI := Lib.hid (keepI Blu.out (.slice B1 R.li.length d1) (.slice B2 R.lh.length d2) (.int .i64 R.o) RI.out)
    have NRH := Lib.hid (keepH Blu.out (.slice B1 R.li.length d1) (.slice B2 R.lh.length d2) (.int .i64 R.o) RH.out)
    have NSI := Lib.hid (keepI Blu.out (.slice B1 R.li.length d1) (.slice B2 R.lh.length d2) (.int .i64 R.o) SI.out)
    have NSH := Lib.hid (keepH Blu.out (.slice B1 R.li.length d1) (.slice B2 R.lh.length d2) (.int .i64 R.o) SH.out)
    have Nu2 := Lib.hid ((blkC3 _ (w.heap.size + 1 + 1 + 1) (w.heap.size + 1 + 1) (by omega) (.slice C1 R.li.length k1) (.slice C2 R.lh.length k2) (.int .i64 R.o)).trans Nu.out)
    have Ny := Lib.hid (setC3 Y1.out (.slice C1 R.li.length k1) (.slice C2 R.lh.length k2) (.int .i64 R.o))
    have PRI := Lib.hid (keepI Y1.out (.slice C1 R.li.length k1) (.slice C2 R.lh.length k2) (.int .i64 R.o) NRI.out)
    have PRH := Lib.hid (keepH Y1.out (.slice C1 R.li.length k1) (.slice C2 R.lh.length k2) (.int .i64 R.o) NRH.out)
    have PSI := Lib.hid (keepI Y1.out (.slice C1 R.li.length k1) (.slice C2 R.lh.length k2) (.int .i64 R.o) NSI.out)
    have PSH := Lib.hid (keepH Y1.out (.slice C1 R.li.length k1) (.slice C2 R.lh.length k2) (.int .i64 R.o) NSH.out)
    have BE := Lib.hid (belC3 (belC3 BB11.out (g := (w.heap.size + 1 + 1)) (by omega) (.slice B1 R.li.length d1) (.slice B2 R.lh.length d2) (.int .i64 R.o)) (g := (w.heap.size + 1 + 1 + 1)) (by omega) (.slice C1 R.li.length k1) (.slice C2 R.lh.length k2) (.int .i64 R.o))
    clear zx fx xx0 xx1 xx2 zk fk xk0 xk1 xk2 zu fu xu0 xu1 xu2 zy fy xy0 xy1 xy2
    clear Nu Y1 NRI NRH NSI NSH Blu Bly Blx Blk Bls Bla RI RH SI SH BB11
    generalize ((((((X12).setCell ⟨w.heap.size + 1 + 1, 0, none⟩ (.slice B1 R.li.length d1)).setCell ⟨w.heap.size + 1 + 1, 1, none⟩ (.slice B2 R.lh.length d2)).setCell ⟨w.heap.size + 1 + 1, 2, none⟩ (.int .i64 R.o)).setCell ⟨w.heap.size + 1 + 1 + 1, 0, none⟩ (.slice C1 R.li.length k1)).setCell ⟨w.heap.size + 1 + 1 + 1, 1, none⟩ (.slice C2 R.lh.length k2)).setCell ⟨w.heap.size + 1 + 1 + 1, 2, none⟩ (.int .i64 R.o) = X99 at *
    have e0 := cellsAt Nu2.out 0
    have f0 := cellsAt Ny.out 0
    have e1 := cellsAt Nu2.out 1
    have f1 := cellsAt Ny.out 1
    have e2 := cellsAt Nu2.out 2
    have f2 := cellsAt Ny.out 2
    simp at e0 e1 e2 f0 f1 f2
    exact bodyPost_ret (v := .tuple #[.agg #[.slice B1 R.li.length d1, .slice B2 R.lh.length d2, .int .i64 R.o], .int .i64 R.er, .agg #[.slice C1 R.li.length k1, .slice C2 R.lh.length k2, .int .i64 R.o], .int .i64 R.er]) (by simp [results, Try.results14, go_sem, e0, e1, e2, f0, f1, f2]) rfl ⟨_, _, _, _, rfl, rowDrew PRI.out, rowDrew PRH.out, rowDrew PSI.out, rowDrew PSH.out, Below.drew BE.out⟩
  · have tw0 : (what == 0) = false := by simpa using h0
    have tx0 : decide (what = 0) = false := by simpa using h0
    by_cases h1 : what = 1
    · have tw : (what == 1) = true := by simpa using h1
      have tx : decide (what = 1) = true := by simpa using h1
      have HOF := HO.out
      unfold doM at HOF
      rw [if_neg h0, if_pos h1] at HOF
      have HR0 := Lib.hid HOF
      clear HOF h1
      have HX := Lib.hid (fun v W (hm : MarksAt W v li lh o) => by have := HI.out v W hm; rw [HR0.out] at this; exact this)
      go_wp2_with fail
      refine (HX.out _ _ (HM.out.below BB4.out)).1.mono ?_
      rintro e w5 ⟨vi, vh, rfl, hri, hrh, hb6⟩
      have RI := Lib.hid hri
      have RH := Lib.hid hrh
      obtain ⟨B1, d1, rfl, -⟩ := hri
      obtain ⟨B2, d2, rfl, -⟩ := hrh
      clear zs fs xs0 xs1 xs2 za fa xa0 xa1 xa2
      have Z := Lib.hid (heap_below Bls.out hb6)
      clear Bls
      have Bls := Z
      clear Z
      have Z := Lib.hid (heap_below Bla.out hb6)
      clear Bla
      have Bla := Z
      clear Z
      have Z := Lib.hid (heap_below Blu.out hb6)
      clear Blu
      have Blu := Z
      clear Z
      have Z := Lib.hid (heap_below Bly.out hb6)
      clear Bly
      have Bly := Z
      clear Z
      have Z := Lib.hid (heap_below Blx.out hb6)
      clear Blx
      have Blx := Z
      clear Z
      have Z := Lib.hid (heap_below Blk.out hb6)
      clear Blk
      have Blk := Z
      clear Z
      have BB7 := Lib.hid (bThen BB4.out hb6)
      clear hb6
      have hz6 := blk_lt Blk.out
      have zx := blk_lt Blx.out
      have xx0 := cellsAt Blx.out 0
      have xx1 := cellsAt Blx.out 1
      have xx2 := cellsAt Blx.out 2
      have fx := frozAt Blx.out
      simp at xx0 xx1 xx2
      go_upto_region 11 with fail
      have Nx := Lib.hid (setC3 Blx.out (.slice B1 R.li.length d1) (.slice B2 R.lh.length d2) (.int .i64 R.o))
      have Ns := Lib.hid ((blkC3 w5 (w.heap.size + 4) (w.heap.size) (by omega) (.slice B1 R.li.length d1) (.slice B2 R.lh.length d2) (.int .i64 R.o)).trans Bls.out)
      have Na := Lib.hid ((blkC3 w5 (w.heap.size + 4) (w.heap.size + 1) (by omega) (.slice B1 R.li.length d1) (.slice B2 R.lh.length d2) (.int .i64 R.o)).trans Bla.out)
      have Nu := Lib.hid ((blkC3 w5 (w.heap.size + 4) (w.heap.size + 2) (by omega) (.slice B1 R.li.length d1) (.slice B2 R.lh.length d2) (.int .i64 R.o)).trans Blu.out)
      have Ny := Lib.hid ((blkC3 w5 (w.heap.size + 4) (w.heap.size + 3) (by omega) (.slice B1 R.li.length d1) (.slice B2 R.lh.length d2) (.int .i64 R.o)).trans Bly.out)
      have Nk := Lib.hid ((blkC3 w5 (w.heap.size + 4) (w.heap.size + 5) (by omega) (.slice B1 R.li.length d1) (.slice B2 R.lh.length d2) (.int .i64 R.o)).trans Blk.out)
      have NRI := Lib.hid (keepI Blx.out (.slice B1 R.li.length d1) (.slice B2 R.lh.length d2) (.int .i64 R.o) RI.out)
      have NRH := Lib.hid (keepH Blx.out (.slice B1 R.li.length d1) (.slice B2 R.lh.length d2) (.int .i64 R.o) RH.out)
      have NB := Lib.hid (belC3 BB7.out (g := w.heap.size + 4) (by omega) (.slice B1 R.li.length d1) (.slice B2 R.lh.length d2) (.int .i64 R.o))
      clear zx fx xx0 xx1 xx2
      clear Blx Bls Bla Blu Bly Blk RI RH BB7
      generalize (((w5).setCell ⟨w.heap.size + 1 + 1 + 1 + 1, 0, none⟩ (.slice B1 R.li.length d1)).setCell ⟨w.heap.size + 1 + 1 + 1 + 1, 1, none⟩ (.slice B2 R.lh.length d2)).setCell ⟨w.heap.size + 1 + 1 + 1 + 1, 2, none⟩ (.int .i64 R.o) = X8 at *
      have Blx := Nx
      clear Nx
      have Bls := Ns
      clear Ns
      have Bla := Na
      clear Na
      have Blu := Nu
      clear Nu
      have Bly := Ny
      clear Ny
      have Blk := Nk
      clear Nk
      have RI := NRI
      clear NRI
      have RH := NRH
      clear NRH
      have BB7 := NB
      clear NB
      have zs := blk_lt Bls.out
      have xs0 := cellsAt Bls.out 0
      have xs1 := cellsAt Bls.out 1
      have xs2 := cellsAt Bls.out 2
      have fs := frozAt Bls.out
      simp at xs0 xs1 xs2
      have za := blk_lt Bla.out
      have xa0 := cellsAt Bla.out 0
      have xa1 := cellsAt Bla.out 1
      have xa2 := cellsAt Bla.out 2
      have fa := frozAt Bla.out
      simp at xa0 xa1 xa2
      go_wp2_with fail
      refine (HX.out _ _ (HM.out.below BB7.out)).2.mono ?_
      rintro e w9 ⟨vi, vh, rfl, hri, hrh, hb10⟩
      have SI := Lib.hid hri
      have SH := Lib.hid hrh
      obtain ⟨C1, k1, rfl, -⟩ := hri
      obtain ⟨C2, k2, rfl, -⟩ := hrh
      clear zs fs xs0 xs1 xs2 za fa xa0 xa1 xa2
      have Z := Lib.hid (heap_below Bls.out hb10)
      clear Bls
      have Bls := Z
      clear Z
      have Z := Lib.hid (heap_below Bla.out hb10)
      clear Bla
      have Bla := Z
      clear Z
      have Z := Lib.hid (heap_below Blu.out hb10)
      clear Blu
      have Blu := Z
      clear Z
      have Z := Lib.hid (heap_below Bly.out hb10)
      clear Bly
      have Bly := Z
      clear Z
      have Z := Lib.hid (heap_below Blx.out hb10)
      clear Blx
      have Blx := Z
      clear Z
      have Z := Lib.hid (heap_below Blk.out hb10)
      clear Blk
      have Blk := Z
      clear Z
      have Z := Lib.hid (Row.below RI.out hb10)
      clear RI
      have RI := Z
      clear Z
      have Z := Lib.hid (Row.below RH.out hb10)
      clear RH
      have RH := Z
      clear Z
      have BB11 := Lib.hid (bThen BB7.out hb10)
      clear hb10
      have hz7 := blk_lt Blk.out
      have zk := blk_lt Blk.out
      have xk0 := cellsAt Blk.out 0
      have xk1 := cellsAt Blk.out 1
      have xk2 := cellsAt Blk.out 2
      have fk := frozAt Blk.out
      simp at xk0 xk1 xk2
      go_upto_region 15 with fail
      have Nk := Lib.hid (setC3 Blk.out (.slice C1 R.li.length k1) (.slice C2 R.lh.length k2) (.int .i64 R.o))
      have Ns := Lib.hid ((blkC3 w9 (w.heap.size + 5) (w.heap.size) (by omega) (.slice C1 R.li.length k1) (.slice C2 R.lh.length k2) (.int .i64 R.o)).trans Bls.out)
      have Na := Lib.hid ((blkC3 w9 (w.heap.size + 5) (w.heap.size + 1) (by omega) (.slice C1 R.li.length k1) (.slice C2 R.lh.length k2) (.int .i64 R.o)).trans Bla.out)
      have Nu := Lib.hid ((blkC3 w9 (w.heap.size + 5) (w.heap.size + 2) (by omega) (.slice C1 R.li.length k1) (.slice C2 R.lh.length k2) (.int .i64 R.o)).trans Blu.out)
      have Ny := Lib.hid ((blkC3 w9 (w.heap.size + 5) (w.heap.size + 3) (by omega) (.slice C1 R.li.length k1) (.slice C2 R.lh.length k2) (.int .i64 R.o)).trans Bly.out)
      have Nx := Lib.hid ((blkC3 w9 (w.heap.size + 5) (w.heap.size + 4) (by omega) (.slice C1 R.li.length k1) (.slice C2 R.lh.length k2) (.int .i64 R.o)).trans Blx.out)
      have NRI := Lib.hid (keepI Blk.out (.slice C1 R.li.length k1) (.slice C2 R.lh.length k2) (.int .i64 R.o) RI.out)
      have NRH := Lib.hid (keepH Blk.out (.slice C1 R.li.length k1) (.slice C2 R.lh.length k2) (.int .i64 R.o) RH.out)
      have NSI := Lib.hid (keepI Blk.out (.slice C1 R.li.length k1) (.slice C2 R.lh.length k2) (.int .i64 R.o) SI.out)
      have NSH := Lib.hid (keepH Blk.out (.slice C1 R.li.length k1) (.slice C2 R.lh.length k2) (.int .i64 R.o) SH.out)
      have NB := Lib.hid (belC3 BB11.out (g := w.heap.size + 5) (by omega) (.slice C1 R.li.length k1) (.slice C2 R.lh.length k2) (.int .i64 R.o))
      clear zk fk xk0 xk1 xk2
      clear Blk Bls Bla Blu Bly Blx RI RH SI SH BB11
      generalize (((w9).setCell ⟨w.heap.size + 1 + 1 + 1 + 1 + 1, 0, none⟩ (.slice C1 R.li.length k1)).setCell ⟨w.heap.size + 1 + 1 + 1 + 1 + 1, 1, none⟩ (.slice C2 R.lh.length k2)).setCell ⟨w.heap.size + 1 + 1 + 1 + 1 + 1, 2, none⟩ (.int .i64 R.o) = X12 at *
      have Blk := Nk
      clear Nk
      have Bls := Ns
      clear Ns
      have Bla := Na
      clear Na
      have Blu := Nu
      clear Nu
      have Bly := Ny
      clear Ny
      have Blx := Nx
      clear Nx
      have RI := NRI
      clear NRI
      have RH := NRH
      clear NRH
      have SI := NSI
      clear NSI
      have SH := NSH
      clear NSH
      have BB11 := NB
      clear NB
      have zx := blk_lt Blx.out
      have xx0 := cellsAt Blx.out 0
      have xx1 := cellsAt Blx.out 1
      have xx2 := cellsAt Blx.out 2
      have fx := frozAt Blx.out
      simp at xx0 xx1 xx2
      have zk := blk_lt Blk.out
      have xk0 := cellsAt Blk.out 0
      have xk1 := cellsAt Blk.out 1
      have xk2 := cellsAt Blk.out 2
      have fk := frozAt Blk.out
      simp at xk0 xk1 xk2
      have zu := blk_lt Blu.out
      have xu0 := cellsAt Blu.out 0
      have xu1 := cellsAt Blu.out 1
      have xu2 := cellsAt Blu.out 2
      have fu := frozAt Blu.out
      simp at xu0 xu1 xu2
      have zy := blk_lt Bly.out
      have xy0 := cellsAt Bly.out 0
      have xy1 := cellsAt Bly.out 1
      have xy2 := cellsAt Bly.out 2
      have fy := frozAt Bly.out
      simp at xy0 xy1 xy2
      go_region
      go_wp2_with fail
      have Nu := Lib.hid (setC3 Blu.out (.slice B1 R.li.length d1) (.slice B2 R.lh.length d2) (.int .i64 R.o))
      have Y1 := Lib.hid ((blkC3 X12 (w.heap.size + 1 + 1) (w.heap.size + 1 + 1 + 1) (by omega) (.slice B1 R.li.length d1) (.slice B2 R.lh.length d2) (.int .i64 R.o)).trans Bly.out)
      have NRI := Lib.hid (keepI Blu.out (.slice B1 R.li.length d1) (.slice B2 R.lh.length d2) (.int .i64 R.o) RI.out)
      have NRH := Lib.hid (keepH Blu.out (.slice B1 R.li.length d1) (.slice B2 R.lh.length d2) (.int .i64 R.o) RH.out)
      have NSI := Lib.hid (keepI Blu.out (.slice B1 R.li.length d1) (.slice B2 R.lh.length d2) (.int .i64 R.o) SI.out)
      have NSH := Lib.hid (keepH Blu.out (.slice B1 R.li.length d1) (.slice B2 R.lh.length d2) (.int .i64 R.o) SH.out)
      have Nu2 := Lib.hid ((blkC3 _ (w.heap.size + 1 + 1 + 1) (w.heap.size + 1 + 1) (by omega) (.slice C1 R.li.length k1) (.slice C2 R.lh.length k2) (.int .i64 R.o)).trans Nu.out)
      have Ny := Lib.hid (setC3 Y1.out (.slice C1 R.li.length k1) (.slice C2 R.lh.length k2) (.int .i64 R.o))
      have PRI := Lib.hid (keepI Y1.out (.slice C1 R.li.length k1) (.slice C2 R.lh.length k2) (.int .i64 R.o) NRI.out)
      have PRH := Lib.hid (keepH Y1.out (.slice C1 R.li.length k1) (.slice C2 R.lh.length k2) (.int .i64 R.o) NRH.out)
      have PSI := Lib.hid (keepI Y1.out (.slice C1 R.li.length k1) (.slice C2 R.lh.length k2) (.int .i64 R.o) NSI.out)
      have PSH := Lib.hid (keepH Y1.out (.slice C1 R.li.length k1) (.slice C2 R.lh.length k2) (.int .i64 R.o) NSH.out)
      have BE := Lib.hid (belC3 (belC3 BB11.out (g := (w.heap.size + 1 + 1)) (by omega) (.slice B1 R.li.length d1) (.slice B2 R.lh.length d2) (.int .i64 R.o)) (g := (w.heap.size + 1 + 1 + 1)) (by omega) (.slice C1 R.li.length k1) (.slice C2 R.lh.length k2) (.int .i64 R.o))
      clear zx fx xx0 xx1 xx2 zk fk xk0 xk1 xk2 zu fu xu0 xu1 xu2 zy fy xy0 xy1 xy2
      clear Nu Y1 NRI NRH NSI NSH Blu Bly Blx Blk Bls Bla RI RH SI SH BB11
      generalize ((((((X12).setCell ⟨w.heap.size + 1 + 1, 0, none⟩ (.slice B1 R.li.length d1)).setCell ⟨w.heap.size + 1 + 1, 1, none⟩ (.slice B2 R.lh.length d2)).setCell ⟨w.heap.size + 1 + 1, 2, none⟩ (.int .i64 R.o)).setCell ⟨w.heap.size + 1 + 1 + 1, 0, none⟩ (.slice C1 R.li.length k1)).setCell ⟨w.heap.size + 1 + 1 + 1, 1, none⟩ (.slice C2 R.lh.length k2)).setCell ⟨w.heap.size + 1 + 1 + 1, 2, none⟩ (.int .i64 R.o) = X99 at *
      have e0 := cellsAt Nu2.out 0
      have f0 := cellsAt Ny.out 0
      have e1 := cellsAt Nu2.out 1
      have f1 := cellsAt Ny.out 1
      have e2 := cellsAt Nu2.out 2
      have f2 := cellsAt Ny.out 2
      simp at e0 e1 e2 f0 f1 f2
      exact bodyPost_ret (v := .tuple #[.agg #[.slice B1 R.li.length d1, .slice B2 R.lh.length d2, .int .i64 R.o], .int .i64 R.er, .agg #[.slice C1 R.li.length k1, .slice C2 R.lh.length k2, .int .i64 R.o], .int .i64 R.er]) (by simp [results, Try.results14, go_sem, e0, e1, e2, f0, f1, f2]) rfl ⟨_, _, _, _, rfl, rowDrew PRI.out, rowDrew PRH.out, rowDrew PSI.out, rowDrew PSH.out, Below.drew BE.out⟩
    · have tw1 : (what == 1) = false := by simpa using h1
      have tx1 : decide (what = 1) = false := by simpa using h1
      by_cases h2 : what = 2
      · have tw : (what == 2) = true := by simpa using h2
        have tx : decide (what = 2) = true := by simpa using h2
        have HOF := HO.out
        unfold doM at HOF
        rw [if_neg h0, if_neg h1, if_pos h2] at HOF
        have HR0 := Lib.hid HOF
        clear HOF h2
        have HX := Lib.hid (fun v W (hm : MarksAt W v li lh o) => by have := HH.out v W hm; rw [HR0.out] at this; exact this)
        go_wp2_with fail
        refine (HX.out _ _ (HM.out.below BB4.out)).1.mono ?_
        rintro e w5 ⟨vi, vh, rfl, hri, hrh, hb6⟩
        have RI := Lib.hid hri
        have RH := Lib.hid hrh
        obtain ⟨B1, d1, rfl, -⟩ := hri
        obtain ⟨B2, d2, rfl, -⟩ := hrh
        clear zs fs xs0 xs1 xs2 za fa xa0 xa1 xa2
        have Z := Lib.hid (heap_below Bls.out hb6)
        clear Bls
        have Bls := Z
        clear Z
        have Z := Lib.hid (heap_below Bla.out hb6)
        clear Bla
        have Bla := Z
        clear Z
        have Z := Lib.hid (heap_below Blu.out hb6)
        clear Blu
        have Blu := Z
        clear Z
        have Z := Lib.hid (heap_below Bly.out hb6)
        clear Bly
        have Bly := Z
        clear Z
        have Z := Lib.hid (heap_below Blx.out hb6)
        clear Blx
        have Blx := Z
        clear Z
        have Z := Lib.hid (heap_below Blk.out hb6)
        clear Blk
        have Blk := Z
        clear Z
        have BB7 := Lib.hid (bThen BB4.out hb6)
        clear hb6
        have hz6 := blk_lt Blk.out
        have zx := blk_lt Blx.out
        have xx0 := cellsAt Blx.out 0
        have xx1 := cellsAt Blx.out 1
        have xx2 := cellsAt Blx.out 2
        have fx := frozAt Blx.out
        simp at xx0 xx1 xx2
        go_upto_region 14 with fail
        have Nx := Lib.hid (setC3 Blx.out (.slice B1 R.li.length d1) (.slice B2 R.lh.length d2) (.int .i64 R.o))
        have Ns := Lib.hid ((blkC3 w5 (w.heap.size + 4) (w.heap.size) (by omega) (.slice B1 R.li.length d1) (.slice B2 R.lh.length d2) (.int .i64 R.o)).trans Bls.out)
        have Na := Lib.hid ((blkC3 w5 (w.heap.size + 4) (w.heap.size + 1) (by omega) (.slice B1 R.li.length d1) (.slice B2 R.lh.length d2) (.int .i64 R.o)).trans Bla.out)
        have Nu := Lib.hid ((blkC3 w5 (w.heap.size + 4) (w.heap.size + 2) (by omega) (.slice B1 R.li.length d1) (.slice B2 R.lh.length d2) (.int .i64 R.o)).trans Blu.out)
        have Ny := Lib.hid ((blkC3 w5 (w.heap.size + 4) (w.heap.size + 3) (by omega) (.slice B1 R.li.length d1) (.slice B2 R.lh.length d2) (.int .i64 R.o)).trans Bly.out)
        have Nk := Lib.hid ((blkC3 w5 (w.heap.size + 4) (w.heap.size + 5) (by omega) (.slice B1 R.li.length d1) (.slice B2 R.lh.length d2) (.int .i64 R.o)).trans Blk.out)
        have NRI := Lib.hid (keepI Blx.out (.slice B1 R.li.length d1) (.slice B2 R.lh.length d2) (.int .i64 R.o) RI.out)
        have NRH := Lib.hid (keepH Blx.out (.slice B1 R.li.length d1) (.slice B2 R.lh.length d2) (.int .i64 R.o) RH.out)
        have NB := Lib.hid (belC3 BB7.out (g := w.heap.size + 4) (by omega) (.slice B1 R.li.length d1) (.slice B2 R.lh.length d2) (.int .i64 R.o))
        clear zx fx xx0 xx1 xx2
        clear Blx Bls Bla Blu Bly Blk RI RH BB7
        generalize (((w5).setCell ⟨w.heap.size + 1 + 1 + 1 + 1, 0, none⟩ (.slice B1 R.li.length d1)).setCell ⟨w.heap.size + 1 + 1 + 1 + 1, 1, none⟩ (.slice B2 R.lh.length d2)).setCell ⟨w.heap.size + 1 + 1 + 1 + 1, 2, none⟩ (.int .i64 R.o) = X8 at *
        have Blx := Nx
        clear Nx
        have Bls := Ns
        clear Ns
        have Bla := Na
        clear Na
        have Blu := Nu
        clear Nu
        have Bly := Ny
        clear Ny
        have Blk := Nk
        clear Nk
        have RI := NRI
        clear NRI
        have RH := NRH
        clear NRH
        have BB7 := NB
        clear NB
        have zs := blk_lt Bls.out
        have xs0 := cellsAt Bls.out 0
        have xs1 := cellsAt Bls.out 1
        have xs2 := cellsAt Bls.out 2
        have fs := frozAt Bls.out
        simp at xs0 xs1 xs2
        have za := blk_lt Bla.out
        have xa0 := cellsAt Bla.out 0
        have xa1 := cellsAt Bla.out 1
        have xa2 := cellsAt Bla.out 2
        have fa := frozAt Bla.out
        simp at xa0 xa1 xa2
        go_wp2_with fail
        refine (HX.out _ _ (HM.out.below BB7.out)).2.mono ?_
        rintro e w9 ⟨vi, vh, rfl, hri, hrh, hb10⟩
        have SI := Lib.hid hri
        have SH := Lib.hid hrh
        obtain ⟨C1, k1, rfl, -⟩ := hri
        obtain ⟨C2, k2, rfl, -⟩ := hrh
        clear zs fs xs0 xs1 xs2 za fa xa0 xa1 xa2
        have Z := Lib.hid (heap_below Bls.out hb10)
        clear Bls
        have Bls := Z
        clear Z
        have Z := Lib.hid (heap_below Bla.out hb10)
        clear Bla
        have Bla := Z
        clear Z
        have Z := Lib.hid (heap_below Blu.out hb10)
        clear Blu
        have Blu := Z
        clear Z
        have Z := Lib.hid (heap_below Bly.out hb10)
        clear Bly
        have Bly := Z
        clear Z
        have Z := Lib.hid (heap_below Blx.out hb10)
        clear Blx
        have Blx := Z
        clear Z
        have Z := Lib.hid (heap_below Blk.out hb10)
        clear Blk
        have Blk := Z
        clear Z
        have Z := Lib.hid (Row.below RI.out hb10)
        clear RI
        have RI := Z
        clear Z
        have Z := Lib.hid (Row.below RH.out hb10)
        clear RH
        have RH := Z
        clear Z
        have BB11 := Lib.hid (bThen BB7.out hb10)
        clear hb10
        have hz7 := blk_lt Blk.out
        have zk := blk_lt Blk.out
        have xk0 := cellsAt Blk.out 0
        have xk1 := cellsAt Blk.out 1
        have xk2 := cellsAt Blk.out 2
        have fk := frozAt Blk.out
        simp at xk0 xk1 xk2
        go_upto_region 15 with fail
        have Nk := Lib.hid (setC3 Blk.out (.slice C1 R.li.length k1) (.slice C2 R.lh.length k2) (.int .i64 R.o))
        have Ns := Lib.hid ((blkC3 w9 (w.heap.size + 5) (w.heap.size) (by omega) (.slice C1 R.li.length k1) (.slice C2 R.lh.length k2) (.int .i64 R.o)).trans Bls.out)
        have Na := Lib.hid ((blkC3 w9 (w.heap.size + 5) (w.heap.size + 1) (by omega) (.slice C1 R.li.length k1) (.slice C2 R.lh.length k2) (.int .i64 R.o)).trans Bla.out)
        have Nu := Lib.hid ((blkC3 w9 (w.heap.size + 5) (w.heap.size + 2) (by omega) (.slice C1 R.li.length k1) (.slice C2 R.lh.length k2) (.int .i64 R.o)).trans Blu.out)
        have Ny := Lib.hid ((blkC3 w9 (w.heap.size + 5) (w.heap.size + 3) (by omega) (.slice C1 R.li.length k1) (.slice C2 R.lh.length k2) (.int .i64 R.o)).trans Bly.out)
        have Nx := Lib.hid ((blkC3 w9 (w.heap.size + 5) (w.heap.size + 4) (by omega) (.slice C1 R.li.length k1) (.slice C2 R.lh.length k2) (.int .i64 R.o)).trans Blx.out)
        have NRI := Lib.hid (keepI Blk.out (.slice C1 R.li.length k1) (.slice C2 R.lh.length k2) (.int .i64 R.o) RI.out)
        have NRH := Lib.hid (keepH Blk.out (.slice C1 R.li.length k1) (.slice C2 R.lh.length k2) (.int .i64 R.o) RH.out)
        have NSI := Lib.hid (keepI Blk.out (.slice C1 R.li.length k1) (.slice C2 R.lh.length k2) (.int .i64 R.o) SI.out)
        have NSH := Lib.hid (keepH Blk.out (.slice C1 R.li.length k1) (.slice C2 R.lh.length k2) (.int .i64 R.o) SH.out)
        have NB := Lib.hid (belC3 BB11.out (g := w.heap.size + 5) (by omega) (.slice C1 R.li.length k1) (.slice C2 R.lh.length k2) (.int .i64 R.o))
        clear zk fk xk0 xk1 xk2
        clear Blk Bls Bla Blu Bly Blx RI RH SI SH BB11
        generalize (((w9).setCell ⟨w.heap.size + 1 + 1 + 1 + 1 + 1, 0, none⟩ (.slice C1 R.li.length k1)).setCell ⟨w.heap.size + 1 + 1 + 1 + 1 + 1, 1, none⟩ (.slice C2 R.lh.length k2)).setCell ⟨w.heap.size + 1 + 1 + 1 + 1 + 1, 2, none⟩ (.int .i64 R.o) = X12 at *
        have Blk := Nk
        clear Nk
        have Bls := Ns
        clear Ns
        have Bla := Na
        clear Na
        have Blu := Nu
        clear Nu
        have Bly := Ny
        clear Ny
        have Blx := Nx
        clear Nx
        have RI := NRI
        clear NRI
        have RH := NRH
        clear NRH
        have SI := NSI
        clear NSI
        have SH := NSH
        clear NSH
        have BB11 := NB
        clear NB
        have zx := blk_lt Blx.out
        have xx0 := cellsAt Blx.out 0
        have xx1 := cellsAt Blx.out 1
        have xx2 := cellsAt Blx.out 2
        have fx := frozAt Blx.out
        simp at xx0 xx1 xx2
        have zk := blk_lt Blk.out
        have xk0 := cellsAt Blk.out 0
        have xk1 := cellsAt Blk.out 1
        have xk2 := cellsAt Blk.out 2
        have fk := frozAt Blk.out
        simp at xk0 xk1 xk2
        have zu := blk_lt Blu.out
        have xu0 := cellsAt Blu.out 0
        have xu1 := cellsAt Blu.out 1
        have xu2 := cellsAt Blu.out 2
        have fu := frozAt Blu.out
        simp at xu0 xu1 xu2
        have zy := blk_lt Bly.out
        have xy0 := cellsAt Bly.out 0
        have xy1 := cellsAt Bly.out 1
        have xy2 := cellsAt Bly.out 2
        have fy := frozAt Bly.out
        simp at xy0 xy1 xy2
        go_region
        go_wp2_with fail
        have Nu := Lib.hid (setC3 Blu.out (.slice B1 R.li.length d1) (.slice B2 R.lh.length d2) (.int .i64 R.o))
        have Y1 := Lib.hid ((blkC3 X12 (w.heap.size + 1 + 1) (w.heap.size + 1 + 1 + 1) (by omega) (.slice B1 R.li.length d1) (.slice B2 R.lh.length d2) (.int .i64 R.o)).trans Bly.out)
        have NRI := Lib.hid (keepI Blu.out (.slice B1 R.li.length d1) (.slice B2 R.lh.length d2) (.int .i64 R.o) RI.out)
        have NRH := Lib.hid (keepH Blu.out (.slice B1 R.li.length d1) (.slice B2 R.lh.length d2) (.int .i64 R.o) RH.out)
        have NSI := Lib.hid (keepI Blu.out (.slice B1 R.li.length d1) (.slice B2 R.lh.length d2) (.int .i64 R.o) SI.out)
        have NSH := Lib.hid (keepH Blu.out (.slice B1 R.li.length d1) (.slice B2 R.lh.length d2) (.int .i64 R.o) SH.out)
        have Nu2 := Lib.hid ((blkC3 _ (w.heap.size + 1 + 1 + 1) (w.heap.size + 1 + 1) (by omega) (.slice C1 R.li.length k1) (.slice C2 R.lh.length k2) (.int .i64 R.o)).trans Nu.out)
        have Ny := Lib.hid (setC3 Y1.out (.slice C1 R.li.length k1) (.slice C2 R.lh.length k2) (.int .i64 R.o))
        have PRI := Lib.hid (keepI Y1.out (.slice C1 R.li.length k1) (.slice C2 R.lh.length k2) (.int .i64 R.o) NRI.out)
        have PRH := Lib.hid (keepH Y1.out (.slice C1 R.li.length k1) (.slice C2 R.lh.length k2) (.int .i64 R.o) NRH.out)
        have PSI := Lib.hid (keepI Y1.out (.slice C1 R.li.length k1) (.slice C2 R.lh.length k2) (.int .i64 R.o) NSI.out)
        have PSH := Lib.hid (keepH Y1.out (.slice C1 R.li.length k1) (.slice C2 R.lh.length k2) (.int .i64 R.o) NSH.out)
        have BE := Lib.hid (belC3 (belC3 BB11.out (g := (w.heap.size + 1 + 1)) (by omega) (.slice B1 R.li.length d1) (.slice B2 R.lh.length d2) (.int .i64 R.o)) (g := (w.heap.size + 1 + 1 + 1)) (by omega) (.slice C1 R.li.length k1) (.slice C2 R.lh.length k2) (.int .i64 R.o))
        clear zx fx xx0 xx1 xx2 zk fk xk0 xk1 xk2 zu fu xu0 xu1 xu2 zy fy xy0 xy1 xy2
        clear Nu Y1 NRI NRH NSI NSH Blu Bly Blx Blk Bls Bla RI RH SI SH BB11
        generalize ((((((X12).setCell ⟨w.heap.size + 1 + 1, 0, none⟩ (.slice B1 R.li.length d1)).setCell ⟨w.heap.size + 1 + 1, 1, none⟩ (.slice B2 R.lh.length d2)).setCell ⟨w.heap.size + 1 + 1, 2, none⟩ (.int .i64 R.o)).setCell ⟨w.heap.size + 1 + 1 + 1, 0, none⟩ (.slice C1 R.li.length k1)).setCell ⟨w.heap.size + 1 + 1 + 1, 1, none⟩ (.slice C2 R.lh.length k2)).setCell ⟨w.heap.size + 1 + 1 + 1, 2, none⟩ (.int .i64 R.o) = X99 at *
        have e0 := cellsAt Nu2.out 0
        have f0 := cellsAt Ny.out 0
        have e1 := cellsAt Nu2.out 1
        have f1 := cellsAt Ny.out 1
        have e2 := cellsAt Nu2.out 2
        have f2 := cellsAt Ny.out 2
        simp at e0 e1 e2 f0 f1 f2
        exact bodyPost_ret (v := .tuple #[.agg #[.slice B1 R.li.length d1, .slice B2 R.lh.length d2, .int .i64 R.o], .int .i64 R.er, .agg #[.slice C1 R.li.length k1, .slice C2 R.lh.length k2, .int .i64 R.o], .int .i64 R.er]) (by simp [results, Try.results14, go_sem, e0, e1, e2, f0, f1, f2]) rfl ⟨_, _, _, _, rfl, rowDrew PRI.out, rowDrew PRH.out, rowDrew PSI.out, rowDrew PSH.out, Below.drew BE.out⟩
      · have tw2 : (what == 2) = false := by simpa using h2
        have tx2 : decide (what = 2) = false := by simpa using h2
        have HOF := HO.out
        unfold doM at HOF
        rw [if_neg h0, if_neg h1, if_neg h2] at HOF
        have HR0 := Lib.hid HOF
        clear HOF
        have HX := Lib.hid (fun v W (hm : MarksAt W v li lh o) => by have := HF.out v W hm; rw [HR0.out] at this; exact this)
        go_wp2_with fail
        refine (HX.out _ _ (HM.out.below BB4.out)).1.mono ?_
        rintro e w5 ⟨vi, vh, rfl, hri, hrh, hb6⟩
        have RI := Lib.hid hri
        have RH := Lib.hid hrh
        obtain ⟨B1, d1, rfl, -⟩ := hri
        obtain ⟨B2, d2, rfl, -⟩ := hrh
        clear zs fs xs0 xs1 xs2 za fa xa0 xa1 xa2
        have Z := Lib.hid (heap_below Bls.out hb6)
        clear Bls
        have Bls := Z
        clear Z
        have Z := Lib.hid (heap_below Bla.out hb6)
        clear Bla
        have Bla := Z
        clear Z
        have Z := Lib.hid (heap_below Blu.out hb6)
        clear Blu
        have Blu := Z
        clear Z
        have Z := Lib.hid (heap_below Bly.out hb6)
        clear Bly
        have Bly := Z
        clear Z
        have Z := Lib.hid (heap_below Blx.out hb6)
        clear Blx
        have Blx := Z
        clear Z
        have Z := Lib.hid (heap_below Blk.out hb6)
        clear Blk
        have Blk := Z
        clear Z
        have BB7 := Lib.hid (bThen BB4.out hb6)
        clear hb6
        have hz6 := blk_lt Blk.out
        have zx := blk_lt Blx.out
        have xx0 := cellsAt Blx.out 0
        have xx1 := cellsAt Blx.out 1
        have xx2 := cellsAt Blx.out 2
        have fx := frozAt Blx.out
        simp at xx0 xx1 xx2
        go_upto_region 5 with fail
        have Nx := Lib.hid (setC3 Blx.out (.slice B1 R.li.length d1) (.slice B2 R.lh.length d2) (.int .i64 R.o))
        have Ns := Lib.hid ((blkC3 w5 (w.heap.size + 4) (w.heap.size) (by omega) (.slice B1 R.li.length d1) (.slice B2 R.lh.length d2) (.int .i64 R.o)).trans Bls.out)
        have Na := Lib.hid ((blkC3 w5 (w.heap.size + 4) (w.heap.size + 1) (by omega) (.slice B1 R.li.length d1) (.slice B2 R.lh.length d2) (.int .i64 R.o)).trans Bla.out)
        have Nu := Lib.hid ((blkC3 w5 (w.heap.size + 4) (w.heap.size + 2) (by omega) (.slice B1 R.li.length d1) (.slice B2 R.lh.length d2) (.int .i64 R.o)).trans Blu.out)
        have Ny := Lib.hid ((blkC3 w5 (w.heap.size + 4) (w.heap.size + 3) (by omega) (.slice B1 R.li.length d1) (.slice B2 R.lh.length d2) (.int .i64 R.o)).trans Bly.out)
        have Nk := Lib.hid ((blkC3 w5 (w.heap.size + 4) (w.heap.size + 5) (by omega) (.slice B1 R.li.length d1) (.slice B2 R.lh.length d2) (.int .i64 R.o)).trans Blk.out)
        have NRI := Lib.hid (keepI Blx.out (.slice B1 R.li.length d1) (.slice B2 R.lh.length d2) (.int .i64 R.o) RI.out)
        have NRH := Lib.hid (keepH Blx.out (.slice B1 R.li.length d1) (.slice B2 R.lh.length d2) (.int .i64 R.o) RH.out)
        have NB := Lib.hid (belC3 BB7.out (g := w.heap.size + 4) (by omega) (.slice B1 R.li.length d1) (.slice B2 R.lh.length d2) (.int .i64 R.o))
        clear zx fx xx0 xx1 xx2
        clear Blx Bls Bla Blu Bly Blk RI RH BB7
        generalize (((w5).setCell ⟨w.heap.size + 1 + 1 + 1 + 1, 0, none⟩ (.slice B1 R.li.length d1)).setCell ⟨w.heap.size + 1 + 1 + 1 + 1, 1, none⟩ (.slice B2 R.lh.length d2)).setCell ⟨w.heap.size + 1 + 1 + 1 + 1, 2, none⟩ (.int .i64 R.o) = X8 at *
        have Blx := Nx
        clear Nx
        have Bls := Ns
        clear Ns
        have Bla := Na
        clear Na
        have Blu := Nu
        clear Nu
        have Bly := Ny
        clear Ny
        have Blk := Nk
        clear Nk
        have RI := NRI
        clear NRI
        have RH := NRH
        clear NRH
        have BB7 := NB
        clear NB
        have zs := blk_lt Bls.out
        have xs0 := cellsAt Bls.out 0
        have xs1 := cellsAt Bls.out 1
        have xs2 := cellsAt Bls.out 2
        have fs := frozAt Bls.out
        simp at xs0 xs1 xs2
        have za := blk_lt Bla.out
        have xa0 := cellsAt Bla.out 0
        have xa1 := cellsAt Bla.out 1
        have xa2 := cellsAt Bla.out 2
        have fa := frozAt Bla.out
        simp at xa0 xa1 xa2
        go_wp2_with fail
        refine (HX.out _ _ (HM.out.below BB7.out)).2.mono ?_
        rintro e w9 ⟨vi, vh, rfl, hri, hrh, hb10⟩
        have SI := Lib.hid hri
        have SH := Lib.hid hrh
        obtain ⟨C1, k1, rfl, -⟩ := hri
        obtain ⟨C2, k2, rfl, -⟩ := hrh
        clear zs fs xs0 xs1 xs2 za fa xa0 xa1 xa2
        have Z := Lib.hid (heap_below Bls.out hb10)
        clear Bls
        have Bls := Z
        clear Z
        have Z := Lib.hid (heap_below Bla.out hb10)
        clear Bla
        have Bla := Z
        clear Z
        have Z := Lib.hid (heap_below Blu.out hb10)
        clear Blu
        have Blu := Z
        clear Z
        have Z := Lib.hid (heap_below Bly.out hb10)
        clear Bly
        have Bly := Z
        clear Z
        have Z := Lib.hid (heap_below Blx.out hb10)
        clear Blx
        have Blx := Z
        clear Z
        have Z := Lib.hid (heap_below Blk.out hb10)
        clear Blk
        have Blk := Z
        clear Z
        have Z := Lib.hid (Row.below RI.out hb10)
        clear RI
        have RI := Z
        clear Z
        have Z := Lib.hid (Row.below RH.out hb10)
        clear RH
        have RH := Z
        clear Z
        have BB11 := Lib.hid (bThen BB7.out hb10)
        clear hb10
        have hz7 := blk_lt Blk.out
        have zk := blk_lt Blk.out
        have xk0 := cellsAt Blk.out 0
        have xk1 := cellsAt Blk.out 1
        have xk2 := cellsAt Blk.out 2
        have fk := frozAt Blk.out
        simp at xk0 xk1 xk2
        go_upto_region 15 with fail
        have Nk := Lib.hid (setC3 Blk.out (.slice C1 R.li.length k1) (.slice C2 R.lh.length k2) (.int .i64 R.o))
        have Ns := Lib.hid ((blkC3 w9 (w.heap.size + 5) (w.heap.size) (by omega) (.slice C1 R.li.length k1) (.slice C2 R.lh.length k2) (.int .i64 R.o)).trans Bls.out)
        have Na := Lib.hid ((blkC3 w9 (w.heap.size + 5) (w.heap.size + 1) (by omega) (.slice C1 R.li.length k1) (.slice C2 R.lh.length k2) (.int .i64 R.o)).trans Bla.out)
        have Nu := Lib.hid ((blkC3 w9 (w.heap.size + 5) (w.heap.size + 2) (by omega) (.slice C1 R.li.length k1) (.slice C2 R.lh.length k2) (.int .i64 R.o)).trans Blu.out)
        have Ny := Lib.hid ((blkC3 w9 (w.heap.size + 5) (w.heap.size + 3) (by omega) (.slice C1 R.li.length k1) (.slice C2 R.lh.length k2) (.int .i64 R.o)).trans Bly.out)
        have Nx := Lib.hid ((blkC3 w9 (w.heap.size + 5) (w.heap.size + 4) (by omega) (.slice C1 R.li.length k1) (.slice C2 R.lh.length k2) (.int .i64 R.o)).trans Blx.out)
        have NRI := Lib.hid (keepI Blk.out (.slice C1 R.li.length k1) (.slice C2 R.lh.length k2) (.int .i64 R.o) RI.out)
        have NRH := Lib.hid (keepH Blk.out (.slice C1 R.li.length k1) (.slice C2 R.lh.length k2) (.int .i64 R.o) RH.out)
        have NSI := Lib.hid (keepI Blk.out (.slice C1 R.li.length k1) (.slice C2 R.lh.length k2) (.int .i64 R.o) SI.out)
        have NSH := Lib.hid (keepH Blk.out (.slice C1 R.li.length k1) (.slice C2 R.lh.length k2) (.int .i64 R.o) SH.out)
        have NB := Lib.hid (belC3 BB11.out (g := w.heap.size + 5) (by omega) (.slice C1 R.li.length k1) (.slice C2 R.lh.length k2) (.int .i64 R.o))
        clear zk fk xk0 xk1 xk2
        clear Blk Bls Bla Blu Bly Blx RI RH SI SH BB11
        generalize (((w9).setCell ⟨w.heap.size + 1 + 1 + 1 + 1 + 1, 0, none⟩ (.slice C1 R.li.length k1)).setCell ⟨w.heap.size + 1 + 1 + 1 + 1 + 1, 1, none⟩ (.slice C2 R.lh.length k2)).setCell ⟨w.heap.size + 1 + 1 + 1 + 1 + 1, 2, none⟩ (.int .i64 R.o) = X12 at *
        have Blk := Nk
        clear Nk
        have Bls := Ns
        clear Ns
        have Bla := Na
        clear Na
        have Blu := Nu
        clear Nu
        have Bly := Ny
        clear Ny
        have Blx := Nx
        clear Nx
        have RI := NRI
        clear NRI
        have RH := NRH
        clear NRH
        have SI := NSI
        clear NSI
        have SH := NSH
        clear NSH
        have BB11 := NB
        clear NB
        have zx := blk_lt Blx.out
        have xx0 := cellsAt Blx.out 0
        have xx1 := cellsAt Blx.out 1
        have xx2 := cellsAt Blx.out 2
        have fx := frozAt Blx.out
        simp at xx0 xx1 xx2
        have zk := blk_lt Blk.out
        have xk0 := cellsAt Blk.out 0
        have xk1 := cellsAt Blk.out 1
        have xk2 := cellsAt Blk.out 2
        have fk := frozAt Blk.out
        simp at xk0 xk1 xk2
        have zu := blk_lt Blu.out
        have xu0 := cellsAt Blu.out 0
        have xu1 := cellsAt Blu.out 1
        have xu2 := cellsAt Blu.out 2
        have fu := frozAt Blu.out
        simp at xu0 xu1 xu2
        have zy := blk_lt Bly.out
        have xy0 := cellsAt Bly.out 0
        have xy1 := cellsAt Bly.out 1
        have xy2 := cellsAt Bly.out 2
        have fy := frozAt Bly.out
        simp at xy0 xy1 xy2
        go_region
        go_wp2_with fail
        have Nu := Lib.hid (setC3 Blu.out (.slice B1 R.li.length d1) (.slice B2 R.lh.length d2) (.int .i64 R.o))
        have Y1 := Lib.hid ((blkC3 X12 (w.heap.size + 1 + 1) (w.heap.size + 1 + 1 + 1) (by omega) (.slice B1 R.li.length d1) (.slice B2 R.lh.length d2) (.int .i64 R.o)).trans Bly.out)
        have NRI := Lib.hid (keepI Blu.out (.slice B1 R.li.length d1) (.slice B2 R.lh.length d2) (.int .i64 R.o) RI.out)
        have NRH := Lib.hid (keepH Blu.out (.slice B1 R.li.length d1) (.slice B2 R.lh.length d2) (.int .i64 R.o) RH.out)
        have NSI := Lib.hid (keepI Blu.out (.slice B1 R.li.length d1) (.slice B2 R.lh.length d2) (.int .i64 R.o) SI.out)
        have NSH := Lib.hid (keepH Blu.out (.slice B1 R.li.length d1) (.slice B2 R.lh.length d2) (.int .i64 R.o) SH.out)
        have Nu2 := Lib.hid ((blkC3 _ (w.heap.size + 1 + 1 + 1) (w.heap.size + 1 + 1) (by omega) (.slice C1 R.li.length k1) (.slice C2 R.lh.length k2) (.int .i64 R.o)).trans Nu.out)
        have Ny := Lib.hid (setC3 Y1.out (.slice C1 R.li.length k1) (.slice C2 R.lh.length k2) (.int .i64 R.o))
        have PRI := Lib.hid (keepI Y1.out (.slice C1 R.li.length k1) (.slice C2 R.lh.length k2) (.int .i64 R.o) NRI.out)
        have PRH := Lib.hid (keepH Y1.out (.slice C1 R.li.length k1) (.slice C2 R.lh.length k2) (.int .i64 R.o) NRH.out)
        have PSI := Lib.hid (keepI Y1.out (.slice C1 R.li.length k1) (.slice C2 R.lh.length k2) (.int .i64 R.o) NSI.out)
        have PSH := Lib.hid (keepH Y1.out (.slice C1 R.li.length k1) (.slice C2 R.lh.length k2) (.int .i64 R.o) NSH.out)
        have BE := Lib.hid (belC3 (belC3 BB11.out (g := (w.heap.size + 1 + 1)) (by omega) (.slice B1 R.li.length d1) (.slice B2 R.lh.length d2) (.int .i64 R.o)) (g := (w.heap.size + 1 + 1 + 1)) (by omega) (.slice C1 R.li.length k1) (.slice C2 R.lh.length k2) (.int .i64 R.o))
        clear zx fx xx0 xx1 xx2 zk fk xk0 xk1 xk2 zu fu xu0 xu1 xu2 zy fy xy0 xy1 xy2
        clear Nu Y1 NRI NRH NSI NSH Blu Bly Blx Blk Bls Bla RI RH SI SH BB11
        generalize ((((((X12).setCell ⟨w.heap.size + 1 + 1, 0, none⟩ (.slice B1 R.li.length d1)).setCell ⟨w.heap.size + 1 + 1, 1, none⟩ (.slice B2 R.lh.length d2)).setCell ⟨w.heap.size + 1 + 1, 2, none⟩ (.int .i64 R.o)).setCell ⟨w.heap.size + 1 + 1 + 1, 0, none⟩ (.slice C1 R.li.length k1)).setCell ⟨w.heap.size + 1 + 1 + 1, 1, none⟩ (.slice C2 R.lh.length k2)).setCell ⟨w.heap.size + 1 + 1 + 1, 2, none⟩ (.int .i64 R.o) = X99 at *
        have e0 := cellsAt Nu2.out 0
        have f0 := cellsAt Ny.out 0
        have e1 := cellsAt Nu2.out 1
        have f1 := cellsAt Ny.out 1
        have e2 := cellsAt Nu2.out 2
        have f2 := cellsAt Ny.out 2
        simp at e0 e1 e2 f0 f1 f2
        exact bodyPost_ret (v := .tuple #[.agg #[.slice B1 R.li.length d1, .slice B2 R.lh.length d2, .int .i64 R.o], .int .i64 R.er, .agg #[.slice C1 R.li.length k1, .slice C2 R.lh.length k2, .int .i64 R.o], .int .i64 R.er]) (by simp [results, Try.results14, go_sem, e0, e1, e2, f0, f1, f2]) rfl ⟨_, _, _, _, rfl, rowDrew PRI.out, rowDrew PRH.out, rowDrew PSI.out, rowDrew PSH.out, Below.drew BE.out⟩
end Go.Proofs.Ytdanfeldbdooeaa
