/-
  WALKS of layer 10: the reference's Free.
-/
import Derived.Test.YtdanfeldbdooeaaMarkW17
import Derived.Deep.DeepCutAuto
set_option linter.unusedVariables false
set_option linter.unusedSimpArgs false
namespace Go.Proofs.Ytdanfeldbdooeaa
open Go.RowKit

set_option maxRecDepth 100000 in
set_option maxHeartbeats 4000000 in
theorem rfree_any (li : List Inp) (lh : List Hld) (o no : Int) (v : Value) (w : World) (h : MarksAt w v li lh o) (l2 : lh.length ≤ 900000) :
    Calls Try.prog 45 #[v, .int .i64 no] w (MksTo (freeM li lh o no) w) := by
  have HM := Lib.hid h
  obtain ⟨vi, vh, rfl, r1, r2, -⟩ := h
  have R1 := Lib.hid r1
  have R2 := Lib.hid r2
  obtain ⟨q, hq⟩ : ∃ q, rightM li lh o = q := ⟨_, rfl⟩
  have HQ := Lib.hid hq
  have HR := Lib.hid (fun W (hm : MarksAt W (.agg #[vi, vh, .int .i64 o]) li lh o) => rmright_any li lh o _ W hm q hq)
  obtain ⟨A1, q1, rfl, -⟩ := r1
  obtain ⟨A2, q2, rfl, -⟩ := r2
  have HWO := Lib.hid (fun (W : World) (h2 : Row Hld.cs 2 W (.slice A2 lh.length q2) lh) => without_any lh no _ W h2 (by omega))
  have HRL := Lib.hid (remH_le lh no)
  obtain ⟨R, hR⟩ : ∃ R, freeM li lh o no = R := ⟨_, rfl⟩
  have HO := Lib.hid hR
  rw [hR]
  clear hq hR
  obtain ⟨iH, hi, hi0, hi1, hi2⟩ := info_parts info_hd
  have HI := Lib.hid hi
  have HI0 := Lib.hid hi0
  have HI1 := Lib.hid hi1
  have HI2 := Lib.hid hi2
  clear hi hi0 hi1 hi2
  go_enter Try.func45, Try.ntmps45
  unfold MksTo
  go_wp2_with fail
  obtain ⟨W1, hW2⟩ : ∃ X, X = ((w).alloc (.cells #[.slice A1 li.length q1, .slice A2 lh.length q2, .int .i64 o] 25)).alloc (.cells #[.slice none 0 0, .slice none 0 0, .int .i64 0] 25) := ⟨_, rfl⟩
  rw [← hW2]
  have hb3 : Below w.heap.size w W1 := by rw [hW2]; exact bel_alloc (bel_alloc (Below.refl _ _) _) _
  have Ns := Lib.hid (show W1.heap[w.heap.size]? = some (.cells #[.slice A1 li.length q1, .slice A2 lh.length q2, .int .i64 o] 25 (0, 0)) by rw [hW2]; exact heap_below (heap_at (w) _ (w.heap.size) (by simp)) (bel_alloc (Below.refl _ _) _))
  have Nz := Lib.hid (show W1.heap[w.heap.size + 1]? = some (.cells #[.slice none 0 0, .slice none 0 0, .int .i64 0] 25 (0, 0)) by rw [hW2]; exact heap_at ((w).alloc (.cells #[.slice A1 li.length q1, .slice A2 lh.length q2, .int .i64 o] 25)) _ (w.heap.size + 1) (by simp))
  clear hW2
  have BB4 := Lib.hid hb3
  clear hb3
  have Bls := Ns
  clear Ns
  have Blz := Nz
  clear Nz
  have zs := blk_lt Bls.out
  have xs0 := cellsAt Bls.out 0
  have xs1 := cellsAt Bls.out 1
  have xs2 := cellsAt Bls.out 2
  have fs := frozAt Bls.out
  simp at xs0 xs1 xs2
  have hzw := blk_lt Blz.out
  go_wp2_with fail
  refine (HWO.out _ (R2.out.below BB4.out)).mono ?_
  rintro e w5 ⟨vr, rfl, hown, hb6⟩
  obtain ⟨Ar, cr, rfl⟩ := own_slice hown
  have OR := Lib.hid (own_base hown hzw)
  clear hown
  clear zs fs xs0 xs1 xs2
  have Z := Lib.hid (heap_below Bls.out hb6)
  clear Bls
  have Bls := Z
  clear Z
  have Z := Lib.hid (heap_below Blz.out hb6)
  clear Blz
  have Blz := Z
  clear Z
  have BB7 := Lib.hid (bThen BB4.out hb6)
  clear hb6
  obtain ⟨hs, hhs⟩ : ∃ b, hasH lh no = b := ⟨_, rfl⟩
  have HHS := Lib.hid hhs
  rw [hhs]
  clear hhs
  have MW := Lib.hid (HM.out.below BB7.out)
  have zs := blk_lt Bls.out
  have xs0 := cellsAt Bls.out 0
  have xs1 := cellsAt Bls.out 1
  have xs2 := cellsAt Bls.out 2
  have fs := frozAt Bls.out
  simp at xs0 xs1 xs2
  go_wp2_with fail
  refine (HR.out _ MW.out).mono ?_
  rintro e w8 ⟨rfl, hb9⟩
  clear zs fs xs0 xs1 xs2
  have Z := Lib.hid (heap_below Bls.out hb9)
  clear Bls
  have Bls := Z
  clear Z
  have Z := Lib.hid (heap_below Blz.out hb9)
  clear Blz
  have Blz := Z
  clear Z
  have Z := Lib.hid (own_below OR.out hb9)
  clear OR
  have OR := Z
  clear Z
  have BB10 := Lib.hid (bThen BB7.out hb9)
  clear hb9
  clear MW HR
  have zs := blk_lt Bls.out
  have xs0 := cellsAt Bls.out 0
  have xs1 := cellsAt Bls.out 1
  have xs2 := cellsAt Bls.out 2
  have fs := frozAt Bls.out
  simp at xs0 xs1 xs2
  have zz := blk_lt Blz.out
  have xz0 := cellsAt Blz.out 0
  have xz1 := cellsAt Blz.out 1
  have xz2 := cellsAt Blz.out 2
  have fz := frozAt Blz.out
  simp at xz0 xz1 xz2
  cases q with
  | false =>
    have HOF := HO.out
    unfold freeM at HOF
    rw [if_neg (by rw [HQ.out]; simp)] at HOF
    subst HOF
    go_wp2_with fail
    exact bodyPost_ret (v := .tuple #[.agg #[.slice none 0 0, .slice none 0 0, .int .i64 0], .int .i64 1]) (by simp [results, Try.results45, go_sem, xz0, xz1, xz2]) rfl ⟨_, _, rfl, Row.none_, Row.none_, belC3 BB10.out (by omega) _ _ _⟩
  | true =>
    cases hs with
    | false =>
      have HOF := HO.out
      unfold freeM at HOF
      rw [if_neg (by rw [HQ.out, HHS.out]; simp)] at HOF
      subst HOF
      go_wp2_with fail
      exact bodyPost_ret (v := .tuple #[.agg #[.slice none 0 0, .slice none 0 0, .int .i64 0], .int .i64 1]) (by simp [results, Try.results45, go_sem, xz0, xz1, xz2]) rfl ⟨_, _, rfl, Row.none_, Row.none_, belC3 BB10.out (by omega) _ _ _⟩
    | true =>
      have HOF := HO.out
      unfold freeM at HOF
      rw [if_pos (by rw [HQ.out, HHS.out]; rfl)] at HOF
      subst HOF
      go_wp2_with fail
      have O9 := Lib.hid (ownC3 OR.out (g := w.heap.size + 1) (by omega) (.slice A1 li.length q1) (.slice Ar (remH lh no).length cr) (.int .i64 o))
      have BE := Lib.hid (belC3 BB10.out (g := w.heap.size + 1) (by omega) (.slice A1 li.length q1) (.slice Ar (remH lh no).length cr) (.int .i64 o))
      exact bodyPost_ret (v := .tuple #[.agg #[.slice A1 li.length q1, .slice Ar (remH lh no).length cr, .int .i64 o], .int .i64 0]) (by simp [results, Try.results45, go_sem, xz0, xz1, xz2]) rfl ⟨_, _, rfl, R1.out.below BE.out, Row.of_own Hld.cs_len O9.out rfl, BE.out⟩
end Go.Proofs.Ytdanfeldbdooeaa
