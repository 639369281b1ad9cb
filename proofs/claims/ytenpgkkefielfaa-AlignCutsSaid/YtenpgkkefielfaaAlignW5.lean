/-
  WALKS of layer 18: New of both sides.
-/
import Derived.Test.YtenpgkkefielfaaAlignW4
import Derived.Laws.MakeOwn
import Derived.Deep.DeepCutAuto
namespace Go.Proofs.Ytenpgkkefielfaa
open Go.RowKit

def zAV : Value := .agg #[.int .i64 0, .slice none 0 0, .slice none 0 0]
def zA : Aln := ⟨0, [], []⟩
def hZ : Hl := ⟨.slice none 0 0, []⟩
def newA' (N : Nat) : Aln := ⟨0, List.replicate N false, List.replicate N hZ⟩
theorem zA_at (W : World) : AlAt W zAV zA := ⟨_, _, rfl, by unfold wfL zA; simp, ⟨Row.none_, by simp [zA]⟩, Row.none_, by simp [zA], by simp [zA]⟩
theorem hZ_at (W : World) : hZ.At W := ⟨Row.none_, by simp [hZ], by simp [hZ]⟩
theorem info_bl : (Try.prog.info? 4).map (fun i => (i.zero, i.size, i.bytes)) = some (some (.bool false), 1, 1) := by kernel_rfl
theorem info_li : (Try.prog.info? 32).map (fun i => (i.zero, i.size, i.bytes)) = some (some (.slice none 0 0), 1, 24) := by kernel_rfl
theorem made_one (a : Value) (N i : Nat) (hi : i < N) : (madeCells #[a] N)[i]? = some a := by
  simp only [madeCells, Array.getElem?_map]
  rw [Array.getElem?_eq_getElem (by simp; omega)]
  simp [Nat.mod_one]
theorem row1_made {α : Type} {enc : α → List Value} {x : α} {a : Value} (he : enc x = [a]) {W : World} {g N : Nat} {T : TypeId} (h : W.heap[g]? = some (.cells (madeCells #[a] N) T (0, 0))) : Row enc 1 W (.slice (some ⟨g, 0, none⟩) N N) (List.replicate N x) := by
  refine ⟨_, N, by rw [List.length_replicate], by rw [List.length_replicate]; exact Nat.le_refl _, fun _ => ⟨g, 0, rfl, blk_lt h, ?_⟩⟩
  intro i y j u hi hu
  rw [List.getElem?_replicate] at hi
  split at hi
  · rename_i hlt
    simp at hi
    subst hi
    rw [he] at hu
    rw [cellsAt h, Nat.zero_add, Nat.mul_one]
    match j, hu with
    | 0, hu => simp at hu; subst hu; exact made_one a N i hlt
  · simp at hi
theorem newA_at {W : World} {vg vh : Value} {N : Nat} (h1 : Row bCs 1 W vg (List.replicate N false)) (h2 : Row Hl.cs 1 W vh (List.replicate N hZ)) (hN : N ≤ 8) : AlAt W (.agg #[.int .i64 0, vg, vh]) (newA' N) :=
  ⟨_, _, rfl, by unfold wfL newA'; simp, ⟨h1, by unfold newA' maxLen; simp; omega⟩, h2, fun x hx => by
    unfold newA' at hx
    obtain rfl := (List.mem_replicate.1 hx).2
    exact hZ_at W, by unfold newA' maxLen; simp; omega⟩
def AnTo (N : Nat) (w : World) (e : Ending) (w' : World) : Prop := (∃ v, e = .returned (.tuple #[v, .int .i64 0]) ∧ AlAt w' v (newA' N)) ∧ Below w.heap.size w w'
set_option maxRecDepth 100000 in
theorem anew_no (n : Int) (w : World) (h : n < 1 ∨ 8 < n) :
    Calls Try.prog 14 #[.int .i64 n] w fun e w' => e = .returned (.tuple #[zAV, .int .i64 1]) ∧ Below w.heap.size w w' := by
  unfold zAV
  rcases h with h | h
  · go_enter Try.func14, Try.ntmps14
    go_wp2_with fail
    exact bodyPost_ret (v := .tuple #[.agg #[.int .i64 0, .slice none 0 0, .slice none 0 0], .int .i64 1]) (by simp [results, Try.results14, go_sem]) rfl ⟨rfl, bel_alloc (Below.refl _ _) _⟩
  · have h' : ¬ n < 1 := by omega
    go_enter Try.func14, Try.ntmps14
    go_wp2_with fail
    exact bodyPost_ret (v := .tuple #[.agg #[.int .i64 0, .slice none 0 0, .slice none 0 0], .int .i64 1]) (by simp [results, Try.results14, go_sem]) rfl ⟨rfl, bel_alloc (Below.refl _ _) _⟩
set_option maxRecDepth 100000 in
theorem ranew_no (n : Int) (w : World) (h : n < 1 ∨ 8 < n) :
    Calls Try.prog 26 #[.int .i64 n] w fun e w' => e = .returned (.tuple #[zAV, .int .i64 1]) ∧ Below w.heap.size w w' := by
  unfold zAV
  rcases h with h | h
  · go_enter Try.func26, Try.ntmps26
    go_wp2_with fail
    exact bodyPost_ret (v := .tuple #[.agg #[.int .i64 0, .slice none 0 0, .slice none 0 0], .int .i64 1]) (by simp [results, Try.results26, go_sem]) rfl ⟨rfl, bel_alloc (bel_alloc (Below.refl _ _) _) _⟩
  · have h' : ¬ n < 1 := by omega
    go_enter Try.func26, Try.ntmps26
    go_wp2_with fail
    exact bodyPost_ret (v := .tuple #[.agg #[.int .i64 0, .slice none 0 0, .slice none 0 0], .int .i64 1]) (by simp [results, Try.results26, go_sem]) rfl ⟨rfl, bel_alloc (bel_alloc (Below.refl _ _) _) _⟩
set_option maxHeartbeats 2000000 in
set_option maxRecDepth 100000 in
theorem anew_yes (n : Int) (N : Nat) (hN : n = N) (w : World) (h1 : 1 ≤ n) (h8 : n ≤ 8) :
    Calls Try.prog 14 #[.int .i64 n] w (AnTo N w) := by
  obtain ⟨i0, hi, hz0, hz1, hz2⟩ := info_parts info_bl
  have hmk := fun W : World => run_make W 24 4 i0 (.bool false) Try.underlying24 hi hz0 .i64 .i64 n n (by omega) (Int.le_refl _) (by rw [hz2]; omega) (by omega)
  rw [hz1, show n.toNat = N by omega] at hmk
  simp only [Value.cells, Nat.mul_one] at hmk
  clear hi hz0 hz1 hz2
  obtain ⟨i1, hi, hz0, hz1, hz2⟩ := info_parts info_li
  have hmk2 := fun W : World => run_make W 22 32 i1 (.slice none 0 0) Try.underlying22 hi hz0 .i64 .i64 n n (by omega) (Int.le_refl _) (by rw [hz2]; omega) (by omega)
  rw [hz1, show n.toNat = N by omega] at hmk2
  simp only [Value.cells, Nat.mul_one] at hmk2
  clear hi hz0 hz1 hz2
  have HN := Lib.hid hN
  clear hN
  go_enter Try.func14, Try.ntmps14
  go_wp2_with fail
  go_region
  all_goals
    go_wp2_with fail
    first | exact bodyPost_ret (v := .tuple #[.agg #[.int .i64 0, .slice (some ⟨w.heap.size + 1, 0, none⟩) N N, .slice (some ⟨w.heap.size + 1 + 1, 0, none⟩) N N], .int .i64 0]) (by simp [results, Try.results14, go_sem]) rfl ⟨⟨_, rfl, newA_at (Row.drew (row1_made (enc := bCs) (x := false) (a := .bool false) rfl (heap_below (heap_at (w.alloc _) _ (w.heap.size + 1) (by simp)) (bel_alloc (Below.refl _ _) _)))) (Row.drew (row1_made (enc := Hl.cs) (x := hZ) (a := .slice none 0 0) rfl (heap_at _ _ (w.heap.size + 1 + 1) (by simp)))) (by have := HN.out; omega)⟩, Below.drew (bel_alloc (bel_alloc (bel_alloc (Below.refl _ _) _) _) _)⟩ | exact bodyPost_ret (v := .tuple #[.agg #[.int .i64 0, .slice (some ⟨w.heap.size + 1 + 1, 0, none⟩) N N, .slice (some ⟨w.heap.size + 1, 0, none⟩) N N], .int .i64 0]) (by simp [results, Try.results14, go_sem]) rfl ⟨⟨_, rfl, newA_at (Row.drew (row1_made (enc := bCs) (x := false) (a := .bool false) rfl (heap_at _ _ (w.heap.size + 1 + 1) (by simp)))) (Row.drew (row1_made (enc := Hl.cs) (x := hZ) (a := .slice none 0 0) rfl (heap_below (heap_at (w.alloc _) _ (w.heap.size + 1) (by simp)) (bel_alloc (Below.refl _ _) _)))) (by have := HN.out; omega)⟩, Below.drew (bel_alloc (bel_alloc (bel_alloc (Below.refl _ _) _) _) _)⟩
def ArNew (N : Nat) (w0 : World) (i : Value) (wr : World) : Prop :=
  ∃ (k : Nat) (u1 u2 : Value), k ≤ N ∧ i = .int .i64 k ∧ wr.heap[w0.heap.size + 1]? = some (.cells #[.int .i64 0, u1, u2] 26 (0, 0)) ∧ wr.heap[w0.heap.size]? = some (.cells #[.int .i64 0, .slice none 0 0, .slice none 0 0] 26 (0, 0)) ∧
    wr.ownsRow (w0.heap.size + 2) 4 1 u1 k ((List.replicate k false).flatMap bCs) ∧ wr.ownsRow (w0.heap.size + 2) 32 1 u2 k ((List.replicate k hZ).flatMap Hl.cs) ∧ Below w0.heap.size w0 wr
set_option maxHeartbeats 4000000 in
set_option maxRecDepth 100000 in
theorem ranew_yes (N : Nat) (w : World) (h1 : 1 ≤ N) (h8 : N ≤ 8) :
    Calls Try.prog 26 #[.int .i64 (N : Int)] w (AnTo N w) := by
  obtain ⟨iI, hi, hi0, hi1, hi2⟩ := info_parts info_bl
  have HI := Lib.hid hi
  have HI0 := Lib.hid hi0
  have HI1 := Lib.hid hi1
  have HI2 := Lib.hid hi2
  clear hi hi0 hi1 hi2
  obtain ⟨iJ, hi, hi0, hi1, hi2⟩ := info_parts info_li
  have HJ := Lib.hid hi
  have HJ0 := Lib.hid hi0
  have HJ1 := Lib.hid hi1
  have HJ2 := Lib.hid hi2
  clear hi hi0 hi1 hi2
  have t0 : decide ((N : Int) < 1) = false := by simp; omega
  have t1 : decide (8 < (N : Int)) = false := by simp; omega
  go_enter Try.func26, Try.ntmps26
  go_wp2_with fail
  go_loopw [5] (fun i wr => ArNew N w i wr) (fun i _ => N - (intOf i).toNat)
  case atStart =>
    exact ⟨0, _, _, Nat.zero_le _, rfl, heap_at _ _ _ (by simp), heap_below (heap_at w _ _ rfl) (bel_alloc (Below.refl _ _) _), World.ownsRow_nil _ _ _ _, World.ownsRow_nil _ _ _ _, bel_alloc (bel_alloc (Below.refl _ _) _) _⟩
  case round =>
    obtain ⟨k, u1, u2, hk, rfl, hg, hz, hown1, hown2, hbel⟩ := hrel
    have HB := Lib.hid hbel
    have HG := Lib.hid hg
    have HZ := Lib.hid hz
    have O1 := Lib.hid hown1
    have O2 := Lib.hid hown2
    clear hbel hg hz hown1 hown2
    obtain ⟨A1, c1, rfl⟩ := own_slice O1.out
    obtain ⟨A2, c2, rfl⟩ := own_slice O2.out
    have gz := blk_lt HG.out
    have g1 := cellsAt HG.out 1
    have g2 := cellsAt HG.out 2
    have gf := frozAt HG.out
    simp at g1 g2
    by_cases hlt : k < N
    · go_wp2_with (at_builtin; refine wpList_push _ rfl _ _ 24 rfl (w.heap.size + 2) 4 iI (.bool false) 1 1 Try.underlying24 HI.out HI0.out HI1.out HI2.out rfl (by decide) _ _ _ rfl O1.out _ _ rfl rfl (by intro u hu; simp at hu; subst hu; rfl) (by unfold maxLen; omega) (by omega) (by omega) ?_)
      intro v5 W5 hown5 BG hblk
      obtain ⟨A5, c5, rfl⟩ := own_slice hown5
      have G5 := Lib.hid ((BG.block (w.heap.size + 1) (by omega)).trans HG.out)
      have Z5 := Lib.hid ((BG.block w.heap.size (by omega)).trans HZ.out)
      have P5 := Lib.hid (own_keep O2.out (fun j hj => hblk j (O2.out.lt j hj).2 (fun e => by rcases own_ne O1.out O2.out (by decide) with h | h; (rw [h] at e; cases e); exact h (e.trans hj.symm))))
      have B5 := Lib.hid (HB.out.trans (BG.mono (by omega)))
      have O5 := Lib.hid hown5
      clear hown5 BG hblk g1 g2 gf gz HG HZ HB O1 O2
      have G6 := Lib.hid (by simpa using blk_set G5.out 1 (.slice A5 (k + 1) c5) : (W5.setCell ⟨w.heap.size + 1, 1, none⟩ (.slice A5 (k + 1) c5)).heap[w.heap.size + 1]? = some (.cells #[.int .i64 0, .slice A5 (k + 1) c5, .slice A2 k c2] 26 (0, 0)))
      have Z6 := Lib.hid ((Below.heap_setCell W5 ⟨w.heap.size + 1, 1, none⟩ (.slice A5 (k + 1) c5) w.heap.size (by simp)).trans Z5.out)
      have O6 := Lib.hid (own_set O5.out (p := ⟨w.heap.size + 1, 1, none⟩) (Nat.lt_succ_self _) (.slice A5 (k + 1) c5))
      have P6 := Lib.hid (own_set P5.out (p := ⟨w.heap.size + 1, 1, none⟩) (Nat.lt_succ_self _) (.slice A5 (k + 1) c5))
      have B6 := Lib.hid (B5.out.setCell (p := ⟨w.heap.size + 1, 1, none⟩) (Nat.le_succ _) (.slice A5 (k + 1) c5))
      have g1 := cellsAt G5.out 1
      have gf := frozAt G5.out
      have gz := blk_lt G5.out
      simp at g1
      go_upto_region 8 with fail
      clear g1 gf gz G5 Z5 P5 B5 O5
      generalize W5.setCell ⟨w.heap.size + 1, 1, none⟩ (.slice A5 (k + 1) c5) = W6 at *
      have g2 := cellsAt G6.out 2
      have gf := frozAt G6.out
      have gz := blk_lt G6.out
      simp at g2
      go_wp2_with (at_builtin; refine wpList_push _ rfl _ _ 22 rfl (w.heap.size + 2) 32 iJ (.slice none 0 0) 1 24 Try.underlying22 HJ.out HJ0.out HJ1.out HJ2.out rfl (by decide) _ _ _ rfl P6.out _ _ rfl rfl (by intro u hu; simp at hu; subst hu; rfl) (by unfold maxLen; omega) (by omega) (by omega) ?_)
      intro v7 W7 hown7 BG hblk
      obtain ⟨A7, c7, rfl⟩ := own_slice hown7
      have G7 := Lib.hid ((BG.block (w.heap.size + 1) (by omega)).trans G6.out)
      have Z7 := Lib.hid ((BG.block w.heap.size (by omega)).trans Z6.out)
      have O7 := Lib.hid (own_keep O6.out (fun j hj => hblk j (O6.out.lt j hj).2 (fun e => by rcases own_ne P6.out O6.out (by decide) with h | h; (rw [h] at e; cases e); exact h (e.trans hj.symm))))
      have B7 := Lib.hid (B6.out.trans (BG.mono (by omega)))
      have P7 := Lib.hid hown7
      clear hown7 BG hblk g2 gf gz G6 Z6 B6 O6 P6
      have g2 := cellsAt G7.out 2
      have gf := frozAt G7.out
      have gz := blk_lt G7.out
      simp at g2
      go_wp2_with fail
      go_roundw
      case rel =>
        refine ⟨k + 1, _, _, by omega, by go_num, by simpa using blk_set G7.out 2 _, (Below.heap_setCell _ _ _ _ (by simp)).trans Z7.out, ?_, ?_, B7.out.setCell (p := ⟨w.heap.size + 1, 2, none⟩) (Nat.le_succ _) _⟩
        · rw [List.replicate_succ', List.flatMap_append]
          exact own_set O7.out (p := ⟨w.heap.size + 1, 2, none⟩) (Nat.lt_succ_self _) _
        · rw [List.replicate_succ', List.flatMap_append]
          exact own_set P7.out (p := ⟨w.heap.size + 1, 2, none⟩) (Nat.lt_succ_self _) _
      case measure => simp [intOf]; omega
    · have hkn : N = k := by omega
      subst hkn
      have g0 := cellsAt HG.out 0
      have z0 := cellsAt HZ.out 0
      have z1 := cellsAt HZ.out 1
      have z2 := cellsAt HZ.out 2
      have zf := frozAt HZ.out
      have zz := blk_lt HZ.out
      simp at g0 z0 z1 z2
      go_wp2_with fail
      have E := blk_set (blk_set (blk_set HZ.out 0 (.int .i64 0)) 1 (.slice A1 N c1)) 2 (.slice A2 N c2)
      simp at E
      have hw : w.heap.size < w.heap.size + 2 := by omega
      have OE := own_set (own_set (own_set O1.out (p := ⟨w.heap.size, 0, none⟩) hw (.int .i64 0)) (p := ⟨w.heap.size, 1, none⟩) hw (.slice A1 N c1)) (p := ⟨w.heap.size, 2, none⟩) hw (.slice A2 N c2)
      have PE := own_set (own_set (own_set O2.out (p := ⟨w.heap.size, 0, none⟩) hw (.int .i64 0)) (p := ⟨w.heap.size, 1, none⟩) hw (.slice A1 N c1)) (p := ⟨w.heap.size, 2, none⟩) hw (.slice A2 N c2)
      have BE := ((HB.out.setCell (p := ⟨w.heap.size, 0, none⟩) (Nat.le_refl _) (.int .i64 0)).setCell (p := ⟨w.heap.size, 1, none⟩) (Nat.le_refl _) (.slice A1 N c1)).setCell (p := ⟨w.heap.size, 2, none⟩) (Nat.le_refl _) (.slice A2 N c2)
      clear g0 g1 g2 gf gz z0 z1 z2 zf zz
      generalize ((wr.setCell ⟨w.heap.size, 0, none⟩ (.int .i64 0)).setCell ⟨w.heap.size, 1, none⟩ (.slice A1 N c1)).setCell ⟨w.heap.size, 2, none⟩ (.slice A2 N c2) = W6 at *
      have e0 := cellsAt E 0
      have e1 := cellsAt E 1
      have e2 := cellsAt E 2
      simp at e0 e1 e2
      exact bodyPost_ret (v := .tuple #[.agg #[.int .i64 0, .slice A1 N c1, .slice A2 N c2], .int .i64 0]) (by simp [results, Try.results26, go_sem, e0, e1, e2]) rfl ⟨⟨_, rfl, newA_at (Row.of_own bCs_len OE (by simp)) (Row.of_own Hl.cs_len PE (by simp)) h8⟩, BE⟩
/-- New, both sides, whatever is asked. -/
def nwE (n : Int) : Int := if n < 1 ∨ 8 < n then 1 else 0
def nwA (n : Int) : Aln := if n < 1 ∨ 8 < n then zA else newA' n.toNat
def NwTo (n : Int) (w : World) (e : Ending) (w' : World) : Prop := (∃ v, e = .returned (.tuple #[v, .int .i64 (nwE n)]) ∧ AlAt w' v (nwA n)) ∧ Below w.heap.size w w'
theorem anew_all (n : Int) (w : World) : Calls Try.prog 14 #[.int .i64 n] w (NwTo n w) := by
  unfold NwTo nwE nwA
  by_cases h : n < 1 ∨ 8 < n
  · refine (anew_no n w h).mono ?_
    rintro e w' ⟨rfl, hb⟩
    simp only [if_pos h]
    exact ⟨⟨_, rfl, zA_at _⟩, hb⟩
  · refine (anew_yes n n.toNat (by omega) w (by omega) (by omega)).mono ?_
    rintro e w' ⟨⟨v, rfl, ha⟩, hb⟩
    simp only [if_neg h]
    exact ⟨⟨_, rfl, ha⟩, hb⟩
theorem ranew_all (n : Int) (w : World) : Calls Try.prog 26 #[.int .i64 n] w (NwTo n w) := by
  unfold NwTo nwE nwA
  by_cases h : n < 1 ∨ 8 < n
  · refine (ranew_no n w h).mono ?_
    rintro e w' ⟨rfl, hb⟩
    simp only [if_pos h]
    exact ⟨⟨_, rfl, zA_at _⟩, hb⟩
  · obtain ⟨N, hN⟩ : ∃ N : Nat, n = N := ⟨n.toNat, by omega⟩
    subst hN
    refine (ranew_yes N w (by omega) (by omega)).mono ?_
    rintro e w' ⟨⟨v, rfl, ha⟩, hb⟩
    simp only [if_neg h, Int.toNat_natCast]
    exact ⟨⟨_, rfl, ha⟩, hb⟩
end Go.Proofs.Ytenpgkkefielfaa
