/-
  WALKS of layer 10: the reference's 'with'.
-/
import Derived.Test.YtdanfeldbdooeaaMarkP1
import Derived.Deep.DeepCutAuto
set_option linter.unusedVariables false
set_option linter.unusedSimpArgs false
namespace Go.Proofs.Ytdanfeldbdooeaa
open Go.RowKit

/-- The loop of 'with': the boxes and the row that grows. -/
structure WiAt (w0 W : World) (cs cx : Array Value) (vh : Value) (o : Int) (u1 : Value) (l : List Inp) : Prop where
  a0 : W.heap[w0.heap.size]? = some (.cells cs 25 (0, 0))
  i0 : W.heap[w0.heap.size + 1]? = some (.cells cx 45 (0, 0))
  z0 : W.heap[w0.heap.size + 2]? = some (.cells #[.slice none 0 0, .slice none 0 0, .int .i64 0] 25 (0, 0))
  o0 : W.heap[w0.heap.size + 3]? = some (.cells #[u1, vh, .int .i64 o] 25 (0, 0))
  g : W.ownsRow (w0.heap.size + 4) 45 2 u1 l.length (l.flatMap Inp.cs)
  bel : Below w0.heap.size w0 W
theorem WiAt.below {w0 W W' : World} {cs cx : Array Value} {vh u1 : Value} {o : Int} {l : List Inp} (h : WiAt w0 W cs cx vh o u1 l) (hb : Below W.heap.size W W') : WiAt w0 W' cs cx vh o u1 l :=
  ⟨heap_below h.a0 hb, heap_below h.i0 hb, heap_below h.z0 hb, heap_below h.o0 hb, own_below h.g hb, bThen h.bel hb⟩
theorem WiAt.push {w0 W W' : World} {cs cx : Array Value} {vh u1 v : Value} {o : Int} {l : List Inp} (h : WiAt w0 W cs cx vh o u1 l) (x : Inp) (ho : W'.ownsRow (w0.heap.size + 4) 45 2 v (l.length + 1) (l.flatMap Inp.cs ++ x.cs)) (hb : Below (w0.heap.size + 4) W W') :
    WiAt w0 (W'.setCell ⟨w0.heap.size + 3, 0, none⟩ v) cs cx vh o v (l ++ [x]) := by
  have hlow : ∀ k, k < w0.heap.size + 4 → W'.heap[k]? = W.heap[k]? := fun k hlt => hb.block k hlt
  refine ⟨(Below.heap_setCell _ _ _ _ (by simp)).trans ((hlow _ (by omega)).trans h.a0), (Below.heap_setCell _ _ _ _ (by simp)).trans ((hlow _ (by omega)).trans h.i0), (Below.heap_setCell _ _ _ _ (by simp)).trans ((hlow _ (by omega)).trans h.z0), ?_, ?_, (h.bel.trans (hb.mono (Nat.le_add_right _ _))).setCell (Nat.le_add_right _ _) _⟩
  · simpa using blk_set ((hlow _ (by omega)).trans h.o0) 0 v
  · rw [List.length_append, List.flatMap_append]
    exact own_set (by simpa using ho) (Nat.lt_succ_self _) _
def WiRel (li : List Inp) (N : Nat) (x : Inp) (w : World) (cs cx : Array Value) (vh : Value) (o : Int) (i : Value) (wr : World) : Prop :=
  ∃ (k : Nat) (u1 : Value), k ≤ li.length ∧ i = .int .i64 k ∧ WiAt w wr cs cx vh o u1 ((li.set N x).take k)
def WiTo (li : List Inp) (N : Nat) (x : Inp) (vh : Value) (o : Int) (w : World) (e : Ending) (w' : World) : Prop :=
  ∃ v1, e = .returned (.agg #[v1, vh, .int .i64 o]) ∧ w'.ownsRow w.heap.size 45 2 v1 li.length ((li.set N x).flatMap Inp.cs) ∧ Below w.heap.size w w'
set_option maxRecDepth 100000 in
set_option maxHeartbeats 4000000 in
theorem with_any (li : List Inp) (N : Nat) (hN : N < li.length) (x : Inp) (o : Int) (vi vh : Value) (w : World) (h1 : Row Inp.cs 2 w vi li) (h2 : ∃ A m c, vh = .slice A m c) (hl : li.length ≤ 1000000) :
    Calls Try.prog 72 #[.agg #[vi, vh, .int .i64 o], .int .i64 (N : Int), .agg #[.int .i64 x.mark, .bool x.idle]] w (WiTo li N x vh o w) := by
  have R1 := Lib.hid h1
  obtain ⟨A, c, rfl, -⟩ := h1
  obtain ⟨A2, m2, c2, rfl⟩ := h2
  obtain ⟨n, hn⟩ : ∃ n, li.length = n := ⟨_, rfl⟩
  have HN := Lib.hid hn
  rw [hn] at hl hN R1 ⊢
  clear hn
  obtain ⟨xm, xi⟩ := x
  obtain ⟨iI, hi, hi0, hi1, hi2⟩ := info_parts info_in'
  have HI := Lib.hid hi
  have HI0 := Lib.hid hi0
  have HI1 := Lib.hid hi1
  have HI2 := Lib.hid hi2
  clear hi hi0 hi1 hi2
  go_enter Try.func72, Try.ntmps72
  go_wp2_with fail
  obtain ⟨W1, hW2⟩ : ∃ X, X = ((((w).alloc (.cells #[.slice A n c, .slice A2 m2 c2, .int .i64 o] 25)).alloc (.cells #[.int .i64 xm, .bool xi] 45)).alloc (.cells #[.slice none 0 0, .slice none 0 0, .int .i64 0] 25)).alloc (.cells #[.slice none 0 0, .slice A2 m2 c2, .int .i64 o] 25) := ⟨_, rfl⟩
  rw [← hW2]
  have hb3 : Below w.heap.size w W1 := by rw [hW2]; exact bel_alloc (bel_alloc (bel_alloc (bel_alloc (Below.refl _ _) _) _) _) _
  have Ns := Lib.hid (show W1.heap[w.heap.size]? = some (.cells #[.slice A n c, .slice A2 m2 c2, .int .i64 o] 25 (0, 0)) by rw [hW2]; exact heap_below (heap_at (w) _ (w.heap.size) (by simp)) (bel_alloc (bel_alloc (bel_alloc (Below.refl _ _) _) _) _))
  have Nx := Lib.hid (show W1.heap[w.heap.size + 1]? = some (.cells #[.int .i64 xm, .bool xi] 45 (0, 0)) by rw [hW2]; exact heap_below (heap_at ((w).alloc (.cells #[.slice A n c, .slice A2 m2 c2, .int .i64 o] 25)) _ (w.heap.size + 1) (by simp)) (bel_alloc (bel_alloc (Below.refl _ _) _) _))
  have Nz := Lib.hid (show W1.heap[w.heap.size + 1 + 1]? = some (.cells #[.slice none 0 0, .slice none 0 0, .int .i64 0] 25 (0, 0)) by rw [hW2]; exact heap_below (heap_at (((w).alloc (.cells #[.slice A n c, .slice A2 m2 c2, .int .i64 o] 25)).alloc (.cells #[.int .i64 xm, .bool xi] 45)) _ (w.heap.size + 1 + 1) (by simp)) (bel_alloc (Below.refl _ _) _))
  have No := Lib.hid (show W1.heap[w.heap.size + 1 + 1 + 1]? = some (.cells #[.slice none 0 0, .slice A2 m2 c2, .int .i64 o] 25 (0, 0)) by rw [hW2]; exact heap_at ((((w).alloc (.cells #[.slice A n c, .slice A2 m2 c2, .int .i64 o] 25)).alloc (.cells #[.int .i64 xm, .bool xi] 45)).alloc (.cells #[.slice none 0 0, .slice none 0 0, .int .i64 0] 25)) _ (w.heap.size + 1 + 1 + 1) (by simp))
  clear hW2
  have BB4 := Lib.hid hb3
  clear hb3
  have Bls := Ns
  clear Ns
  have Blx := Nx
  clear Nx
  have Blz := Nz
  clear Nz
  have Blo := No
  clear No
  have WA := Lib.hid (show WiAt w W1 #[.slice A n c, .slice A2 m2 c2, .int .i64 o] #[.int .i64 xm, .bool xi] (.slice A2 m2 c2) o (.slice none 0 0) ((li.set N ⟨xm, xi⟩).take 0) from ⟨Bls.out, Blx.out, Blz.out, Blo.out, by simpa using World.ownsRow_nil _ _ _ _, BB4.out⟩)
  clear Bls Blx Blz Blo BB4
  go_loopw [18] (fun i wr => WiRel li N ⟨xm, xi⟩ w #[.slice A n c, .slice A2 m2 c2, .int .i64 o] #[.int .i64 xm, .bool xi] (.slice A2 m2 c2) o i wr) (fun i _ => n - (intOf i).toNat)
  case atStart => exact ⟨0, _, Nat.zero_le _, rfl, WA.out⟩
  case round =>
    clear WA
    obtain ⟨k, u1, hk, rfl, hwa⟩ := hrel
    rw [HN.out] at hk
    have HW := Lib.hid hwa
    clear hwa
    have hlk : ((li.set N ⟨xm, xi⟩).take k).length = k := by rw [List.length_take, List.length_set, HN.out]; omega
    have HLK := Lib.hid hlk
    obtain ⟨A1, c1, rfl⟩ : ∃ A c, u1 = .slice A k c := by have O1 := HW.out.g; rw [hlk] at O1; exact own_slice O1
    clear hlk
    by_cases hlt : k < n
    · obtain ⟨y, hy⟩ : ∃ y, li[k]? = some y := ⟨_, List.getElem?_eq_getElem (by rw [HN.out]; exact hlt)⟩
      have HY := Lib.hid hy
      obtain ⟨b', o', c', e', hc', hb', hX⟩ := (R1.out.below HW.out.bel).at_ hy
      injection e' with e1 e2 e3
      clear e2
      subst e1 e3
      have c0 := hX 0 _ rfl
      have c1 := hX 1 _ rfl
      clear hX hy
      obtain ⟨y0, y1⟩ := y
      simp only [Nat.add_zero] at c0 c1
      by_cases hkN : k = N
      · subst hkN
        have tN1 : ((k : Int) == (k : Int)) = true := by simp
        have tN2 : decide ((k : Int) = (k : Int)) = true := by simp
        have xx0 := cellsAt HW.out.i0 0
        have xx1 := cellsAt HW.out.i0 1
        have zx := blk_lt HW.out.i0
        simp at xx0 xx1
        go_upto_region 7 with fail
        clear xx0 xx1 zx c0 c1
        obtain ⟨W4, hW4⟩ : ∃ W4, W4 = wr.alloc (.cells #[.int .i64 xm, .bool xi] 45) := ⟨_, rfl⟩
        rw [← hW4]
        have X4 := Lib.hid (show W4.heap[wr.heap.size]? = some (.cells #[.int .i64 xm, .bool xi] 45 (0, 0)) by rw [hW4]; exact heap_at _ _ _ rfl)
        have B4 := Lib.hid (show Below wr.heap.size wr W4 by rw [hW4]; exact bel_alloc (Below.refl _ _) _)
        clear hW4
        have HW4 := Lib.hid (HW.out.below B4.out)
        have O1 := HW4.out.g
        rw [HLK.out] at O1
        have xo0 := cellsAt HW4.out.o0 0
        have fo := frozAt HW4.out.o0
        have zo := blk_lt HW4.out.o0
        have xy0 := cellsAt X4.out 0
        have xy1 := cellsAt X4.out 1
        have zy := blk_lt X4.out
        simp at xo0 xy0 xy1
        have hbase : w.heap.size + 4 ≤ W4.heap.size := by omega
        go_wp2_with (at_builtin; refine wpList_push _ rfl _ _ 22 rfl (w.heap.size + 4) 45 iI (.agg #[.int .i64 0, .bool false]) 2 16 Try.underlying22 HI.out HI0.out HI1.out HI2.out rfl (by decide) _ _ _ rfl O1 #[.int .i64 xm, .bool xi] 45 rfl rfl (by intro u hu; simp at hu; rcases hu with rfl | rfl <;> rfl) (by unfold maxLen; omega) (by omega) hbase ?_)
        intro v5 W5 hown5 BG _
        obtain ⟨A5, c5, rfl⟩ := own_slice hown5
        have HW5 := Lib.hid (HW4.out.push ⟨xm, xi⟩ (v := .slice A5 (k + 1) c5) (by rw [HLK.out]; exact hown5) BG)
        have xo0 := (BG.cell (p := ⟨w.heap.size + 3, 0, none⟩) (by simp)).trans xo0
        have fo := (BG.frozen (p := ⟨w.heap.size + 3, 0, none⟩) (by simp)).trans (fo 0)
        have zo5 : w.heap.size + 3 < W5.heap.size := Nat.lt_of_lt_of_le zo BG.size
        clear hown5 BG O1 zo hbase xy0 xy1 zy X4 B4 HW4 HW
        go_wp2_with fail
        go_roundw
        case rel =>
          refine ⟨k + 1, .slice A5 (k + 1) c5, by rw [HN.out]; omega, by go_num, ?_⟩
          rw [List.take_add_one, List.getElem?_set_self (by rw [HN.out]; exact hlt)]
          exact HW5.out
        case measure => simp [intOf]; omega
      · have tN1 : ((N : Int) == (k : Int)) = false := by simp; omega
        have tN2 : decide ((N : Int) = (k : Int)) = false := by simp; omega
        go_upto_region 7 with fail
        clear c0 c1
        obtain ⟨W4, hW4⟩ : ∃ W4, W4 = wr.alloc (.cells #[.int .i64 y0, .bool y1] 45) := ⟨_, rfl⟩
        rw [← hW4]
        have X4 := Lib.hid (show W4.heap[wr.heap.size]? = some (.cells #[.int .i64 y0, .bool y1] 45 (0, 0)) by rw [hW4]; exact heap_at _ _ _ rfl)
        have B4 := Lib.hid (show Below wr.heap.size wr W4 by rw [hW4]; exact bel_alloc (Below.refl _ _) _)
        clear hW4
        have HW4 := Lib.hid (HW.out.below B4.out)
        have O1 := HW4.out.g
        rw [HLK.out] at O1
        have xo0 := cellsAt HW4.out.o0 0
        have fo := frozAt HW4.out.o0
        have zo := blk_lt HW4.out.o0
        have xy0 := cellsAt X4.out 0
        have xy1 := cellsAt X4.out 1
        have zy := blk_lt X4.out
        simp at xo0 xy0 xy1
        have hbase : w.heap.size + 4 ≤ W4.heap.size := by omega
        go_wp2_with (at_builtin; refine wpList_push _ rfl _ _ 22 rfl (w.heap.size + 4) 45 iI (.agg #[.int .i64 0, .bool false]) 2 16 Try.underlying22 HI.out HI0.out HI1.out HI2.out rfl (by decide) _ _ _ rfl O1 #[.int .i64 y0, .bool y1] 45 rfl rfl (by intro u hu; simp at hu; rcases hu with rfl | rfl <;> rfl) (by unfold maxLen; omega) (by omega) hbase ?_)
        intro v5 W5 hown5 BG _
        obtain ⟨A5, c5, rfl⟩ := own_slice hown5
        have HW5 := Lib.hid (HW4.out.push ⟨y0, y1⟩ (v := .slice A5 (k + 1) c5) (by rw [HLK.out]; exact hown5) BG)
        have xo0 := (BG.cell (p := ⟨w.heap.size + 3, 0, none⟩) (by simp)).trans xo0
        have fo := (BG.frozen (p := ⟨w.heap.size + 3, 0, none⟩) (by simp)).trans (fo 0)
        have zo5 : w.heap.size + 3 < W5.heap.size := Nat.lt_of_lt_of_le zo BG.size
        clear hown5 BG O1 zo hbase xy0 xy1 zy X4 B4 HW4 HW
        go_wp2_with fail
        go_roundw
        case rel =>
          refine ⟨k + 1, .slice A5 (k + 1) c5, by rw [HN.out]; omega, by go_num, ?_⟩
          rw [List.take_add_one, List.getElem?_set_ne (fun e => hkN e.symm), HY.out]
          exact HW5.out
        case measure => simp [intOf]; omega
    · obtain rfl : k = n := by omega
      have xo0 := cellsAt HW.out.o0 0
      have xo1 := cellsAt HW.out.o0 1
      have xo2 := cellsAt HW.out.o0 2
      have fo := frozAt HW.out.o0
      have zzo := blk_lt HW.out.o0
      simp at xo0 xo1 xo2
      have xz0 := cellsAt HW.out.z0 0
      have xz1 := cellsAt HW.out.z0 1
      have xz2 := cellsAt HW.out.z0 2
      have fz := frozAt HW.out.z0
      have zzz := blk_lt HW.out.z0
      simp at xz0 xz1 xz2
      go_wp2_with fail
      have Ez := setC3 HW.out.z0 (.slice A1 k c1) (.slice A2 m2 c2) (.int .i64 o)
      have OG := ownC3 HW.out.g (g := w.heap.size + 2) (by omega) (.slice A1 k c1) (.slice A2 m2 c2) (.int .i64 o)
      have BE := belC3 HW.out.bel (g := w.heap.size + 2) (by omega) (.slice A1 k c1) (.slice A2 m2 c2) (.int .i64 o)
      clear xo0 xo1 xo2 fo zzo xz0 xz1 xz2 fz zzz HW
      generalize (((wr).setCell ⟨w.heap.size + 2, 0, none⟩ (.slice A1 k c1)).setCell ⟨w.heap.size + 2, 1, none⟩ (.slice A2 m2 c2)).setCell ⟨w.heap.size + 2, 2, none⟩ (.int .i64 o) = W6 at *
      have e0 := cellsAt Ez 0
      have e1 := cellsAt Ez 1
      have e2 := cellsAt Ez 2
      simp at e0 e1 e2
      have hk2 : (li.set N ⟨xm, xi⟩).take k = li.set N ⟨xm, xi⟩ := List.take_of_length_le (by rw [List.length_set, HN.out]; exact Nat.le_refl _)
      rw [HLK.out, hk2] at OG
      exact bodyPost_ret (v := .agg #[.slice A1 k c1, .slice A2 m2 c2, .int .i64 o]) (by simp [results, Try.results72, go_sem, e0, e1, e2]) rfl ⟨_, rfl, by rw [HN.out]; exact own_base OG (by omega), BE⟩
end Go.Proofs.Ytdanfeldbdooeaa
