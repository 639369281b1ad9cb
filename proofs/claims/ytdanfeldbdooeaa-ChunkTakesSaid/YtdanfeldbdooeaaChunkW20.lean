/-
  WALKS of layer 20: the law ChunkTakes.
-/
import Derived.Test.YtdanfeldbdooeaaChunkW16
import Derived.Test.YtdanfeldbdooeaaChunkW18
import Derived.Test.YtdanfeldbdooeaaChunkW19
import Derived.Test.YtdanfeldbdooeaaChunkW9
import Derived.Test.YtdanfeldbdooeaaChunkArgs
set_option linter.unusedVariables false
set_option linter.unusedSimpArgs false
namespace Go.Proofs.Ytdanfeldbdooeaa
open Go.RowKit

theorem keepT {W w' w'' : World} {g0 g1 g2 : Nat} {a00 a01 a02 a10 a11 a12 a20 a21 a22 : Value} (hg0 : g0 < W.heap.size) (hg1 : g1 < W.heap.size) (hg2 : g2 < W.heap.size) (h : Below W.heap.size W w' ∧ w'.cell? ⟨g0, 0, none⟩ = some a00 ∧ w'.cell? ⟨g0, 1, none⟩ = some a01 ∧ w'.cell? ⟨g0, 2, none⟩ = some a02 ∧ w'.cell? ⟨g1, 0, none⟩ = some a10 ∧ w'.cell? ⟨g1, 1, none⟩ = some a11 ∧ w'.cell? ⟨g1, 2, none⟩ = some a12 ∧ w'.cell? ⟨g2, 0, none⟩ = some a20 ∧ w'.cell? ⟨g2, 1, none⟩ = some a21 ∧ w'.cell? ⟨g2, 2, none⟩ = some a22) (hb : Below w'.heap.size w' w'') : Below W.heap.size W w'' ∧ w''.cell? ⟨g0, 0, none⟩ = some a00 ∧ w''.cell? ⟨g0, 1, none⟩ = some a01 ∧ w''.cell? ⟨g0, 2, none⟩ = some a02 ∧ w''.cell? ⟨g1, 0, none⟩ = some a10 ∧ w''.cell? ⟨g1, 1, none⟩ = some a11 ∧ w''.cell? ⟨g1, 2, none⟩ = some a12 ∧ w''.cell? ⟨g2, 0, none⟩ = some a20 ∧ w''.cell? ⟨g2, 1, none⟩ = some a21 ∧ w''.cell? ⟨g2, 2, none⟩ = some a22 := by
  obtain ⟨b, c0, c1, c2, c3, c4, c5, c6, c7, c8⟩ := h
  have hs := b.size
  exact ⟨b.trans (hb.mono hs), (hb.cell (p := ⟨g0, 0, none⟩) (Nat.lt_of_lt_of_le hg0 hs)).trans c0, (hb.cell (p := ⟨g0, 1, none⟩) (Nat.lt_of_lt_of_le hg0 hs)).trans c1, (hb.cell (p := ⟨g0, 2, none⟩) (Nat.lt_of_lt_of_le hg0 hs)).trans c2, (hb.cell (p := ⟨g1, 0, none⟩) (Nat.lt_of_lt_of_le hg1 hs)).trans c3, (hb.cell (p := ⟨g1, 1, none⟩) (Nat.lt_of_lt_of_le hg1 hs)).trans c4, (hb.cell (p := ⟨g1, 2, none⟩) (Nat.lt_of_lt_of_le hg1 hs)).trans c5, (hb.cell (p := ⟨g2, 0, none⟩) (Nat.lt_of_lt_of_le hg2 hs)).trans c6, (hb.cell (p := ⟨g2, 1, none⟩) (Nat.lt_of_lt_of_le hg2 hs)).trans c7, (hb.cell (p := ⟨g2, 2, none⟩) (Nat.lt_of_lt_of_le hg2 hs)).trans c8⟩
theorem keepTD {W w' : World} {g0 g1 g2 : Nat} {a00 a01 a02 a10 a11 a12 a20 a21 a22 : Value} (h : Below W.heap.size W w' ∧ w'.cell? ⟨g0, 0, none⟩ = some a00 ∧ w'.cell? ⟨g0, 1, none⟩ = some a01 ∧ w'.cell? ⟨g0, 2, none⟩ = some a02 ∧ w'.cell? ⟨g1, 0, none⟩ = some a10 ∧ w'.cell? ⟨g1, 1, none⟩ = some a11 ∧ w'.cell? ⟨g1, 2, none⟩ = some a12 ∧ w'.cell? ⟨g2, 0, none⟩ = some a20 ∧ w'.cell? ⟨g2, 1, none⟩ = some a21 ∧ w'.cell? ⟨g2, 2, none⟩ = some a22) : Below W.heap.size W w'.drew ∧ w'.drew.cell? ⟨g0, 0, none⟩ = some a00 ∧ w'.drew.cell? ⟨g0, 1, none⟩ = some a01 ∧ w'.drew.cell? ⟨g0, 2, none⟩ = some a02 ∧ w'.drew.cell? ⟨g1, 0, none⟩ = some a10 ∧ w'.drew.cell? ⟨g1, 1, none⟩ = some a11 ∧ w'.drew.cell? ⟨g1, 2, none⟩ = some a12 ∧ w'.drew.cell? ⟨g2, 0, none⟩ = some a20 ∧ w'.drew.cell? ⟨g2, 1, none⟩ = some a21 ∧ w'.drew.cell? ⟨g2, 2, none⟩ = some a22 := ⟨h.1.drew, h.2⟩
theorem putC_le (l : List Ck) (c : Ck) : (putC l c).length ≤ 2 * l.length + 1 := by
  unfold putC
  rw [List.length_append, List.length_cons]
  have h1 := List.length_filter_le (fun x : Ck => decide (x.no < c.no)) l
  have h2 := List.length_filter_le (fun x : Ck => decide (c.no ≤ x.no)) l
  omega
theorem takeC_le (g o : Int) (l : List Ck) (c : Ck) : (takeC g o l c).l.length ≤ 2 * l.length + 1 := by
  unfold takeC
  split
  · split
    · split
      · split
        · simp only; omega
        · simp
      · exact putC_le l c
    · simp
  · simp
theorem row_drew {W : World} {α : Type} {enc : α → List Value} {k : Nat} {v : Value} {l : List α} (h : Row enc k W v l) : Row enc k W.drew v l := h.below (Below.drew (Below.refl _ _))
set_option maxRecDepth 100000 in
set_option maxHeartbeats 4000000 in
theorem takes_walk (g o : Int) (l : List Ck) (c : Ck) (v : Value) (w : World) (hg : GatherAt w v g o l) (hc : c.Ok) :
    Calls Try.prog 12 #[v, .agg #[.int .i64 c.g, .int .i64 c.no, .int .i64 c.of_, .string c.b]] w fun e w' => e = .returned (.bool true) ∧ Below w.heap.size w w' := by
  obtain ⟨v, rfl, hv, hok, -, -, hml⟩ := hg
  have R1 := Lib.hid hv
  have HV := Lib.hid hv
  have hm63 : l.length ≤ 9223372036854775807 := by unfold maxLen at hml; omega
  clear hml
  by_cases h600 : 600 < l.length
  · obtain ⟨A, cp, rfl, -⟩ := hv
    obtain ⟨m, hm⟩ : ∃ m, l.length = m := ⟨_, rfl⟩
    rw [hm] at h600 hm63 ⊢
    clear hm R1 HV
    obtain ⟨cg, cn, co, cb⟩ := c
    have h6 : decide ((600 : Int) < (m : Int)) = true := by simp; omega
    simp only
    go_enter Try.func12, Try.ntmps12
    go_wp2_with fail
    go_ret
    exact ⟨rfl, bel_alloc (bel_alloc (Below.refl _ _) _) _⟩
  have hl : l.length ≤ 600 := by omega
  clear h600 hm63
  have HT := Lib.hid (fun W (h : Row Ck.cs 4 W v l) => ctake_any g o l c hc v W h (by omega) hok)
  have HU := Lib.hid (fun W (h : Row Ck.cs 4 W v l) => rtake_any g o l c hc v W h (by omega) hok)
  have HB := Lib.hid (fun W (h : Row Ck.cs 4 W v l) => bytes_any g o l v W h (by omega) hok)
  have HC := Lib.hid (fun W (h : Row Ck.cs 4 W v l) => rbytes_any g o l v W h (by omega) hok)
  obtain ⟨q, hq⟩ : ∃ q, rightG g o l = q := ⟨_, rfl⟩
  have HR := Lib.hid (fun W (h : Row Ck.cs 4 W v l) => cright_any g o l v W h (by omega) hok q hq)
  have HS := Lib.hid (fun W (h : Row Ck.cs 4 W v l) => rright_any g o l v W h (by omega) hok q hq)
  have HLM := Lib.hid (show (if rightG g o l = true then missK l o.toNat else []).length ≤ 1000000 by
    split
    · have h1 := missK_le l o.toNat
      have h2 := (right_mem (by assumption)).1.2
      omega
    · simp)
  have HM := Lib.hid (fun W (h : Row Ck.cs 4 W v l) => missing_any g o l v W h (by omega) hok)
  have HN := Lib.hid (fun W (h : Row Ck.cs 4 W v l) => rmissing_any g o l v W h (by omega) hok)
  obtain ⟨LL, hLL⟩ : ∃ L, (if rightG g o l = true then missK l o.toNat else []) = L := ⟨_, rfl⟩
  rw [hLL] at HM HN HLM
  obtain ⟨BB, hBB⟩ : ∃ B, bytesC g o l = B := ⟨_, rfl⟩
  rw [hBB] at HB HC
  have HTL := Lib.hid (show (takeC g o l c).l.length ≤ 1000000 by have := takeC_le g o l c; omega)
  obtain ⟨TT, hTT⟩ : ∃ B, takeC g o l c = B := ⟨_, rfl⟩
  rw [hTT] at HT HU HTL
  clear hq hLL hBB hTT hok hc
  obtain ⟨A, cp, rfl, -⟩ := hv
  obtain ⟨m, hm⟩ : ∃ m, l.length = m := ⟨_, rfl⟩
  rw [hm] at R1 HV HT HU HB HC HR HS HM HN hl ⊢
  clear hm
  have h6 : decide ((600 : Int) < (m : Int)) = false := by simp; omega
  obtain ⟨cg, cn, co, cb⟩ := c
  obtain ⟨tg, to_, tl, te⟩ := TT
  obtain ⟨bb, be⟩ := BB
  simp only at HT HU HB HC HTL ⊢
  go_enter Try.func12, Try.ntmps12
  go_upto_region 3 with fail
  obtain ⟨W1, hW2⟩ : ∃ X, X = ((w).alloc (.cells #[.int .i64 g, .int .i64 o, .slice A m cp] 52)).alloc (.cells #[.int .i64 cg, .int .i64 cn, .int .i64 co, .string cb] 56) := ⟨_, rfl⟩
  rw [← hW2]
  have hb3 : Below w.heap.size w W1 := by rw [hW2]; exact bel_alloc (bel_alloc (Below.refl _ _) _) _
  have Ns := Lib.hid (show W1.heap[w.heap.size]? = some (.cells #[.int .i64 g, .int .i64 o, .slice A m cp] 52 (0, 0)) by rw [hW2]; exact heap_below (heap_at (w) _ (w.heap.size) (by simp)) (bel_alloc (Below.refl _ _) _))
  have Nc := Lib.hid (show W1.heap[w.heap.size + 1]? = some (.cells #[.int .i64 cg, .int .i64 cn, .int .i64 co, .string cb] 56 (0, 0)) by rw [hW2]; exact heap_at ((w).alloc (.cells #[.int .i64 g, .int .i64 o, .slice A m cp] 52)) _ (w.heap.size + 1) (by simp))
  clear hW2
  have BB4 := Lib.hid hb3
  clear hb3
  have Bls := Ns
  clear Ns
  have Blc := Nc
  clear Nc
  have R2 := Lib.hid (R1.out.below BB4.out)
  have zs := blk_lt Bls.out
  have xs0 := cellsAt Bls.out 0
  have xs1 := cellsAt Bls.out 1
  have xs2 := cellsAt Bls.out 2
  have fs := frozAt Bls.out
  simp at xs0 xs1 xs2
  have zc := blk_lt Blc.out
  have xc0 := cellsAt Blc.out 0
  have xc1 := cellsAt Blc.out 1
  have xc2 := cellsAt Blc.out 2
  have xc3 := cellsAt Blc.out 3
  have fc := frozAt Blc.out
  simp at xc0 xc1 xc2 xc3
  go_wp2_with fail
  refine (HT.out _ R2.out).mono ?_
  rintro e w5 ⟨v1, rfl, hr1, hb6⟩
  have Q1 := Lib.hid hr1
  obtain ⟨A1, q1, rfl, -⟩ := hr1
  simp only at Q1 ⊢
  clear zs fs xs0 xs1 xs2 zc fc xc0 xc1 xc2 xc3
  have Z := Lib.hid (heap_below Bls.out hb6)
  clear Bls
  have Bls := Z
  clear Z
  have Z := Lib.hid (heap_below Blc.out hb6)
  clear Blc
  have Blc := Z
  clear Z
  have Z := Lib.hid (Row.below R2.out hb6)
  clear R2
  have R2 := Z
  clear Z
  have BB7 := Lib.hid (bThen BB4.out hb6)
  clear hb6
  go_upto_region 4 with fail
  obtain ⟨W8, hW9⟩ : ∃ X, X = (w5).alloc (.cells #[.int .i64 tg, .int .i64 to_, .slice A1 tl.length q1] 52) := ⟨_, rfl⟩
  rw [← hW9]
  have hb10 : Below w5.heap.size w5 W8 := by rw [hW9]; exact bel_alloc (Below.refl _ _) _
  have Nt1 := Lib.hid (show W8.heap[w5.heap.size]? = some (.cells #[.int .i64 tg, .int .i64 to_, .slice A1 tl.length q1] 52 (0, 0)) by rw [hW9]; exact heap_at (w5) _ (w5.heap.size) (by simp))
  clear hW9
  have Z := Lib.hid (heap_below Bls.out hb10)
  clear Bls
  have Bls := Z
  clear Z
  have Z := Lib.hid (heap_below Blc.out hb10)
  clear Blc
  have Blc := Z
  clear Z
  have Z := Lib.hid (Row.below R2.out hb10)
  clear R2
  have R2 := Z
  clear Z
  have Z := Lib.hid (Row.below Q1.out hb10)
  clear Q1
  have Q1 := Z
  clear Z
  have BB11 := Lib.hid (bThen BB7.out hb10)
  clear hb10
  have Blt1 := Nt1
  clear Nt1
  have zs := blk_lt Bls.out
  have xs0 := cellsAt Bls.out 0
  have xs1 := cellsAt Bls.out 1
  have xs2 := cellsAt Bls.out 2
  have fs := frozAt Bls.out
  simp at xs0 xs1 xs2
  have zc := blk_lt Blc.out
  have xc0 := cellsAt Blc.out 0
  have xc1 := cellsAt Blc.out 1
  have xc2 := cellsAt Blc.out 2
  have xc3 := cellsAt Blc.out 3
  have fc := frozAt Blc.out
  simp at xc0 xc1 xc2 xc3
  go_wp2_with fail
  refine (HU.out _ R2.out).mono ?_
  rintro e w12 ⟨v2, rfl, hr2, hb13⟩
  have Q2 := Lib.hid hr2
  obtain ⟨A2, q2, rfl, -⟩ := hr2
  simp only at Q2 ⊢
  clear zs fs xs0 xs1 xs2 zc fc xc0 xc1 xc2 xc3
  have Z := Lib.hid (heap_below Bls.out hb13)
  clear Bls
  have Bls := Z
  clear Z
  have Z := Lib.hid (heap_below Blc.out hb13)
  clear Blc
  have Blc := Z
  clear Z
  have Z := Lib.hid (heap_below Blt1.out hb13)
  clear Blt1
  have Blt1 := Z
  clear Z
  have Z := Lib.hid (Row.below R2.out hb13)
  clear R2
  have R2 := Z
  clear Z
  have Z := Lib.hid (Row.below Q1.out hb13)
  clear Q1
  have Q1 := Z
  clear Z
  have BB14 := Lib.hid (bThen BB11.out hb13)
  clear hb13
  go_upto_region 5 with fail
  obtain ⟨W15, hW16⟩ : ∃ X, X = (w12).alloc (.cells #[.int .i64 tg, .int .i64 to_, .slice A2 tl.length q2] 52) := ⟨_, rfl⟩
  rw [← hW16]
  have hb17 : Below w12.heap.size w12 W15 := by rw [hW16]; exact bel_alloc (Below.refl _ _) _
  have Nt2 := Lib.hid (show W15.heap[w12.heap.size]? = some (.cells #[.int .i64 tg, .int .i64 to_, .slice A2 tl.length q2] 52 (0, 0)) by rw [hW16]; exact heap_at (w12) _ (w12.heap.size) (by simp))
  clear hW16
  have Z := Lib.hid (heap_below Bls.out hb17)
  clear Bls
  have Bls := Z
  clear Z
  have Z := Lib.hid (heap_below Blc.out hb17)
  clear Blc
  have Blc := Z
  clear Z
  have Z := Lib.hid (heap_below Blt1.out hb17)
  clear Blt1
  have Blt1 := Z
  clear Z
  have Z := Lib.hid (Row.below R2.out hb17)
  clear R2
  have R2 := Z
  clear Z
  have Z := Lib.hid (Row.below Q1.out hb17)
  clear Q1
  have Q1 := Z
  clear Z
  have Z := Lib.hid (Row.below Q2.out hb17)
  clear Q2
  have Q2 := Z
  clear Z
  have BB18 := Lib.hid (bThen BB14.out hb17)
  clear hb17
  have Blt2 := Nt2
  clear Nt2
  have zs := blk_lt Bls.out
  have xs0 := cellsAt Bls.out 0
  have xs1 := cellsAt Bls.out 1
  have xs2 := cellsAt Bls.out 2
  have fs := frozAt Bls.out
  simp at xs0 xs1 xs2
  have zc := blk_lt Blc.out
  have xc0 := cellsAt Blc.out 0
  have xc1 := cellsAt Blc.out 1
  have xc2 := cellsAt Blc.out 2
  have xc3 := cellsAt Blc.out 3
  have fc := frozAt Blc.out
  simp at xc0 xc1 xc2 xc3
  go_wp2_with fail
  refine (HB.out _ R2.out).mono ?_
  rintro e w19 ⟨rfl, hb20⟩
  clear zs fs xs0 xs1 xs2 zc fc xc0 xc1 xc2 xc3
  have Z := Lib.hid (heap_below Bls.out hb20)
  clear Bls
  have Bls := Z
  clear Z
  have Z := Lib.hid (heap_below Blc.out hb20)
  clear Blc
  have Blc := Z
  clear Z
  have Z := Lib.hid (heap_below Blt1.out hb20)
  clear Blt1
  have Blt1 := Z
  clear Z
  have Z := Lib.hid (heap_below Blt2.out hb20)
  clear Blt2
  have Blt2 := Z
  clear Z
  have Z := Lib.hid (Row.below R2.out hb20)
  clear R2
  have R2 := Z
  clear Z
  have Z := Lib.hid (Row.below Q1.out hb20)
  clear Q1
  have Q1 := Z
  clear Z
  have Z := Lib.hid (Row.below Q2.out hb20)
  clear Q2
  have Q2 := Z
  clear Z
  have BB21 := Lib.hid (bThen BB18.out hb20)
  clear hb20
  have zs := blk_lt Bls.out
  have xs0 := cellsAt Bls.out 0
  have xs1 := cellsAt Bls.out 1
  have xs2 := cellsAt Bls.out 2
  have fs := frozAt Bls.out
  simp at xs0 xs1 xs2
  go_wp2_with fail
  refine (HC.out _ R2.out).mono ?_
  rintro e w22 ⟨rfl, hb23⟩
  clear zs fs xs0 xs1 xs2
  have Z := Lib.hid (heap_below Bls.out hb23)
  clear Bls
  have Bls := Z
  clear Z
  have Z := Lib.hid (heap_below Blc.out hb23)
  clear Blc
  have Blc := Z
  clear Z
  have Z := Lib.hid (heap_below Blt1.out hb23)
  clear Blt1
  have Blt1 := Z
  clear Z
  have Z := Lib.hid (heap_below Blt2.out hb23)
  clear Blt2
  have Blt2 := Z
  clear Z
  have Z := Lib.hid (Row.below R2.out hb23)
  clear R2
  have R2 := Z
  clear Z
  have Z := Lib.hid (Row.below Q1.out hb23)
  clear Q1
  have Q1 := Z
  clear Z
  have Z := Lib.hid (Row.below Q2.out hb23)
  clear Q2
  have Q2 := Z
  clear Z
  have BB24 := Lib.hid (bThen BB21.out hb23)
  clear hb23
  have zs := blk_lt Bls.out
  have xs0 := cellsAt Bls.out 0
  have xs1 := cellsAt Bls.out 1
  have xs2 := cellsAt Bls.out 2
  have fs := frozAt Bls.out
  simp at xs0 xs1 xs2
  have zt1 := blk_lt Blt1.out
  have xt10 := cellsAt Blt1.out 0
  have xt11 := cellsAt Blt1.out 1
  have xt12 := cellsAt Blt1.out 2
  have ft1 := frozAt Blt1.out
  simp at xt10 xt11 xt12
  have zt2 := blk_lt Blt2.out
  have xt20 := cellsAt Blt2.out 0
  have xt21 := cellsAt Blt2.out 1
  have xt22 := cellsAt Blt2.out 2
  have ft2 := frozAt Blt2.out
  simp at xt20 xt21 xt22
  go_upto_region 7 with fail
  have CM := Lib.hid (fun w' (hb : Below w22.heap.size w22 w') => HM.out w' (R2.out.below hb))
  have CN := Lib.hid (fun w' (hb : Below w22.heap.size w22 w') => HN.out w' (R2.out.below hb))
  have CR := Lib.hid (fun w' (hb : Below w22.heap.size w22 w') => HR.out w' (R2.out.below hb))
  have CS := Lib.hid (fun w' (hb : Below w22.heap.size w22 w') => HS.out w' (R2.out.below hb))
  have CL := Lib.hid (fun w' (hb : Below w22.heap.size w22 w') => likeG_same tg to_ tl _ _ w' (Q1.out.below hb) (Q2.out.below hb) HTL.out)
  have CI := Lib.hid (fun (w' : World) (v u : Value) (h1 : Row iCs 1 w' v LL) (h2 : Row iCs 1 w' u LL) => ints_same LL v u w' h1 h2 HLM.out)
  have hS : Below w22.heap.size w22 w22 ∧ w22.cell? ⟨w.heap.size, 0, none⟩ = some (.int .i64 g) ∧ w22.cell? ⟨w.heap.size, 1, none⟩ = some (.int .i64 o) ∧ w22.cell? ⟨w.heap.size, 2, none⟩ = some (.slice A m cp) ∧ w22.cell? ⟨w5.heap.size, 0, none⟩ = some (.int .i64 tg) ∧ w22.cell? ⟨w5.heap.size, 1, none⟩ = some (.int .i64 to_) ∧ w22.cell? ⟨w5.heap.size, 2, none⟩ = some (.slice A1 tl.length q1) ∧ w22.cell? ⟨w12.heap.size, 0, none⟩ = some (.int .i64 tg) ∧ w22.cell? ⟨w12.heap.size, 1, none⟩ = some (.int .i64 to_) ∧ w22.cell? ⟨w12.heap.size, 2, none⟩ = some (.slice A2 tl.length q2) := ⟨Below.refl _ _, cellsAt Bls.out 0, cellsAt Bls.out 1, cellsAt Bls.out 2, cellsAt Blt1.out 0, cellsAt Blt1.out 1, cellsAt Blt1.out 2, cellsAt Blt2.out 0, cellsAt Blt2.out 1, cellsAt Blt2.out 2⟩
  have hSS : (bb.toList == bb.toList) = true := by simp
  have hSE : (be == be) = true := by simp
  have hST : (te == te) = true := by simp
  have G0 := blk_lt Bls.out
  have G1 := blk_lt Blt1.out
  have G2 := blk_lt Blt2.out
  clear HM HN HR HS HT HU HB HC
  clear zs fs xs0 xs1 xs2 zt1 ft1 xt10 xt11 xt12 zt2 ft2 xt20 xt21 xt22
  go_region_held3 (fun w' => Below w22.heap.size w22 w' ∧ w'.cell? ⟨w.heap.size, 0, none⟩ = some (.int .i64 g) ∧ w'.cell? ⟨w.heap.size, 1, none⟩ = some (.int .i64 o) ∧ w'.cell? ⟨w.heap.size, 2, none⟩ = some (.slice A m cp) ∧ w'.cell? ⟨w5.heap.size, 0, none⟩ = some (.int .i64 tg) ∧ w'.cell? ⟨w5.heap.size, 1, none⟩ = some (.int .i64 to_) ∧ w'.cell? ⟨w5.heap.size, 2, none⟩ = some (.slice A1 tl.length q1) ∧ w'.cell? ⟨w12.heap.size, 0, none⟩ = some (.int .i64 tg) ∧ w'.cell? ⟨w12.heap.size, 1, none⟩ = some (.int .i64 to_) ∧ w'.cell? ⟨w12.heap.size, 2, none⟩ = some (.slice A2 tl.length q2)) (first | assumption | exact keepTD (by assumption) | exact keepT (by assumption) (by assumption) (by assumption) (by assumption) (by assumption)) (first | (go_at_call 28; with_reducible refine (calive_any _).mono ?_; rintro e w3 ⟨rfl, hb3⟩) | (go_at_call 27; with_reducible refine (CR.out _ (And.left (by assumption))).mono ?_; rintro e w3 ⟨rfl, hb3⟩) | (go_at_call 39; with_reducible refine (CS.out _ (And.left (by assumption))).mono ?_; rintro e w3 ⟨rfl, hb3⟩) | (go_at_call 30; with_reducible refine (CL.out _ (And.left (by assumption))).mono ?_; rintro e w3 ⟨rfl, hb3⟩) | (go_at_call 31; refine (CM.out _ (And.left (by assumption))).mono ?_; rintro e w5 ⟨v5, rfl, hr5, hb3⟩) | (go_at_call 41; refine (CN.out _ (And.left (by assumption))).mono ?_; rintro e w6 ⟨v6, rfl, hr6, hb3⟩; have hr7 := (by first | exact hr5.below hb3 | exact hr5.below (bUndrew hb3) : Row iCs 1 w6 v5 LL)) | (go_at_call 40; refine (CI.out _ _ _ (by first | exact hr7 | exact row_drew hr7) (by first | exact hr6 | exact row_drew hr6)).mono ?_; rintro e w8 ⟨rfl, hb3⟩))
  go_wp2_with fail
  go_ret
  exact ⟨rfl, bThen BB24.out (by first | assumption | exact And.left (by assumption))⟩
end Go.Proofs.Ytdanfeldbdooeaa
