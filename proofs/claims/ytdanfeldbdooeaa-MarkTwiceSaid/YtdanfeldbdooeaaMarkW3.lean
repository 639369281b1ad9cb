/-
  WALKS of layer 10: New on both sides, Like.
-/
import Derived.Test.YtdanfeldbdooeaaMarkW2
import Derived.Laws.MakeOwn
set_option linter.unusedVariables false
set_option linter.unusedSimpArgs false
namespace Go.Proofs.Ytdanfeldbdooeaa
open Go.RowKit

def inZ : Inp := ⟨0, false⟩
theorem info_in : (Try.prog.info? 45).map (fun i => (i.zero, i.size, i.bytes)) = some (some (.agg #[.int .i64 0, .bool false]), 2, 16) := by kernel_rfl
theorem made_at (a b : Value) (N i : Nat) (hi : i < N) : (madeCells #[a, b] (N * 2))[i * 2 + 0]? = some a ∧ (madeCells #[a, b] (N * 2))[i * 2 + 1]? = some b := by
  constructor
  · simp only [madeCells, Array.getElem?_map, Nat.add_zero]
    rw [Array.getElem?_eq_getElem (by simp; omega)]
    simp
  · simp only [madeCells, Array.getElem?_map]
    rw [Array.getElem?_eq_getElem (by simp; omega)]
    simp
theorem row_made {W : World} {g N : Nat} (h : W.heap[g]? = some (.cells (madeCells #[.int .i64 0, .bool false] (N * 2)) 45 (0, 0))) : Row Inp.cs 2 W (.slice (some ⟨g, 0, none⟩) N N) (List.replicate N inZ) := by
  refine ⟨_, N, by rw [List.length_replicate], by rw [List.length_replicate]; exact Nat.le_refl _, fun _ => ⟨g, 0, rfl, blk_lt h, ?_⟩⟩
  intro i x j u hi hu
  rw [List.getElem?_replicate] at hi
  split at hi
  · rename_i hlt
    simp at hi
    subst hi
    obtain ⟨m0, m1⟩ := made_at (.int .i64 0) (.bool false) N i hlt
    rw [cellsAt h, Nat.zero_add]
    match j, hu with
    | 0, hu => simp [Inp.cs, inZ] at hu; subst hu; exact m0
    | 1, hu => simp [Inp.cs, inZ] at hu; subst hu; exact m1
  · simp at hi
def NewTo (N : Nat) (w : World) (e : Ending) (w' : World) : Prop :=
  ∃ v, e = .returned (.tuple #[.agg #[v, .slice none 0 0, .int .i64 0], .int .i64 0]) ∧ Row Inp.cs 2 w' v (List.replicate N inZ) ∧ Below w.heap.size w w'
set_option maxHeartbeats 1000000 in
set_option maxRecDepth 100000 in
theorem mnew_no (n : Int) (w : World) (h : n < 1 ∨ 8 < n) :
    Calls Try.prog 17 #[.int .i64 n] w fun e w' => e = .returned (.tuple #[.agg #[.slice none 0 0, .slice none 0 0, .int .i64 0], .int .i64 1]) ∧ Below w.heap.size w w' := by
  rcases h with h | h
  · go_enter Try.func17, Try.ntmps17
    go_wp2_with fail
    exact bodyPost_ret (v := .tuple #[.agg #[.slice none 0 0, .slice none 0 0, .int .i64 0], .int .i64 1]) (by simp [results, Try.results17, go_sem]) rfl ⟨rfl, bel_alloc (Below.refl _ _) _⟩
  · have h' : ¬ n < 1 := by omega
    go_enter Try.func17, Try.ntmps17
    go_wp2_with fail
    exact bodyPost_ret (v := .tuple #[.agg #[.slice none 0 0, .slice none 0 0, .int .i64 0], .int .i64 1]) (by simp [results, Try.results17, go_sem]) rfl ⟨rfl, bel_alloc (Below.refl _ _) _⟩
set_option maxHeartbeats 1000000 in
set_option maxRecDepth 100000 in
theorem rmnew_no (n : Int) (w : World) (h : n < 1 ∨ 8 < n) :
    Calls Try.prog 23 #[.int .i64 n] w fun e w' => e = .returned (.tuple #[.agg #[.slice none 0 0, .slice none 0 0, .int .i64 0], .int .i64 1]) ∧ Below w.heap.size w w' := by
  rcases h with h | h
  · go_enter Try.func23, Try.ntmps23
    go_wp2_with fail
    exact bodyPost_ret (v := .tuple #[.agg #[.slice none 0 0, .slice none 0 0, .int .i64 0], .int .i64 1]) (by simp [results, Try.results23, go_sem]) rfl ⟨rfl, bel_alloc (Below.refl _ _) _⟩
  · have h' : ¬ n < 1 := by omega
    go_enter Try.func23, Try.ntmps23
    go_wp2_with fail
    exact bodyPost_ret (v := .tuple #[.agg #[.slice none 0 0, .slice none 0 0, .int .i64 0], .int .i64 1]) (by simp [results, Try.results23, go_sem]) rfl ⟨rfl, bel_alloc (Below.refl _ _) _⟩
set_option maxHeartbeats 1000000 in
set_option maxRecDepth 100000 in
theorem mnew_yes (n : Int) (N : Nat) (hN : n = N) (w : World) (h1 : 1 ≤ n) (h8 : n ≤ 8) :
    Calls Try.prog 17 #[.int .i64 n] w (NewTo N w) := by
  obtain ⟨i0, hi, hz0, hz1, hz2⟩ := info_parts info_in
  have hmk := fun W : World => run_make W 22 45 i0 (.agg #[.int .i64 0, .bool false]) Try.underlying22 hi hz0 .i64 .i64 n n (by omega) (Int.le_refl _) (by rw [hz2]; omega) (by omega)
  rw [hz1, show n.toNat = N by omega] at hmk
  simp only [Value.cells] at hmk
  clear hi hz0 hz1 hz2
  have HN := Lib.hid hN
  clear hN
  go_enter Try.func17, Try.ntmps17
  go_wp2_with fail
  refine bodyPost_ret (v := .tuple #[.agg #[.slice (some ⟨w.heap.size + 1, 0, none⟩) N N, .slice none 0 0, .int .i64 0], .int .i64 0]) (by simp [results, Try.results17, go_sem]) rfl ⟨_, rfl, row_made (g := w.heap.size + 1) ?_, bel_alloc (bel_alloc (Below.refl _ _) _) _⟩
  exact heap_at _ _ _ (by simp)
def NwRel (N : Nat) (w : World) (i : Value) (wr : World) : Prop :=
  ∃ (k : Nat) (v : Value), k ≤ N ∧ i = .int .i64 k ∧ wr.heap[w.heap.size]? = some (.cells #[.slice none 0 0, .slice none 0 0, .int .i64 0] 25 (0, 0)) ∧ wr.heap[w.heap.size + 1]? = some (.cells #[v, .slice none 0 0, .int .i64 0] 25 (0, 0)) ∧
    wr.ownsRow (w.heap.size + 2) 45 2 v k ((List.replicate k inZ).flatMap Inp.cs) ∧ Below w.heap.size w wr
set_option maxHeartbeats 2000000 in
set_option maxRecDepth 100000 in
theorem rmnew_yes (n : Int) (N : Nat) (hN : n = N) (w : World) (h1 : 1 ≤ n) (h8 : n ≤ 8) :
    Calls Try.prog 23 #[.int .i64 n] w (NewTo N w) := by
  obtain ⟨i0, hi, hz0, hz1, hz2⟩ := info_parts info_in
  have HI := Lib.hid hi
  have HZ0 := Lib.hid hz0
  have HZ1 := Lib.hid hz1
  have HZ2 := Lib.hid hz2
  clear hi hz0 hz1 hz2
  subst hN
  have hN8 : N ≤ 8 := by omega
  go_enter Try.func23, Try.ntmps23
  go_wp2_with fail
  go_loopw [5] (fun i wr => NwRel N w i wr) (fun i _ => N - (intOf i).toNat)
  case atStart =>
    refine ⟨0, .slice none 0 0, Nat.zero_le _, rfl, ?_, ?_, World.ownsRow_nil _ _ _ _, bel_alloc (bel_alloc (Below.refl _ _) _) _⟩
    · exact (Below.heap_alloc _ _ _ (by simp)).trans (heap_alloc_new w _)
    · have e : (w.alloc (.cells #[.slice none 0 0, .slice none 0 0, .int .i64 0] 25)).heap.size = w.heap.size + 1 := by simp
      rw [← e]
      exact heap_alloc_new _ _
  case round =>
    obtain ⟨k, v, hk, rfl, hb0, hb1, hown, hbel⟩ := hrel
    have HB0 := Lib.hid hb0
    have HB1 := Lib.hid hb1
    have HO := Lib.hid hown
    have HW := Lib.hid hbel
    have hl1 := blk_lt hb1
    clear hb0 hb1 hown hbel
    by_cases hlt : k < N
    · have c0 := cellsAt HB1.out 0
      have f0 := frozAt HB1.out 0
      simp at c0
      go_wp2_with (at_builtin; refine wpList_append_own _ rfl _ _ 22 rfl (w.heap.size + 2) 45 i0 (.agg #[.int .i64 0, .bool false]) 2 16 Try.underlying22 HI.out HZ0.out HZ1.out HZ2.out rfl (by decide) _ _ _ rfl (HO.out.alloc _) ⟨wr.heap.size, 0, none⟩ 1 1 [.int .i64 0, .bool false] rfl rfl ?c1 ?c2 ?c3 ?c4 ?c5 ?_)
      case c1 =>
        intro j u hj
        match j, hj with
        | 0, hj => simp at hj; subst hj; simp [Addr.add]
        | 1, hj => simp at hj; subst hj; simp [Addr.add]
      case c2 => intro u hu; simp at hu; rcases hu with rfl | rfl <;> rfl
      case c3 => unfold maxLen; omega
      case c4 => omega
      case c5 => simp; omega
      intro v' W3 hown3 hgrow3 _
      have old : ∀ g, g < w.heap.size + 2 → W3.heap[g]? = wr.heap[g]? := fun g hg => by
        refine (hgrow3.block g (by simp; omega) (by
          intro h
          have := (HO.out.lt _ h.symm).1
          omega)).trans (Below.heap_alloc wr _ g (by omega))
      have HB3 := Lib.hid ((old (w.heap.size + 1) (by omega)).trans HB1.out)
      have HB4 := Lib.hid ((old w.heap.size (by omega)).trans HB0.out)
      have HO3 := Lib.hid hown3
      have HW3 := Lib.hid ((bel_alloc HW.out (.cells #[.int .i64 0, .bool false] 45)).grown hgrow3 (by simp; omega) (fun q hq => by have := (HO.out.lt _ hq).1; omega))
      obtain ⟨b3, cap3, rfl, hb3, hl3, hc3⟩ := own_form hown3 (by omega)
      clear hown3 hgrow3 old hb3 hl3 hc3 c0 f0
      have c0 := cellsAt HB3.out 0
      have f0 := frozAt HB3.out 0
      simp at c0
      go_wp2_with fail
      go_roundw
      case rel =>
        refine ⟨k + 1, .slice (some ⟨b3, 0, none⟩) (k + 1) cap3, by omega, by go_num, (Below.heap_setCell _ _ _ _ (by show w.heap.size ≠ w.heap.size + 1; omega)).trans HB4.out, ?_, ?_, HW3.out.setCell (p := ⟨w.heap.size + 1, 0, none⟩) (Nat.le_succ _) _⟩
        · exact blk_set HB3.out 0 _
        · have := own_set HO3.out (p := ⟨w.heap.size + 1, 0, none⟩) (Nat.lt_succ_self _) (.slice (some ⟨b3, 0, none⟩) (k + 1) cap3)
          rw [List.replicate_succ', List.flatMap_append]
          exact this
      case measure => simp [intOf]; omega
    · have hkn : k = N := by omega
      subst hkn
      have hv : v = .slice (match v with | .slice a _ _ => a | _ => none) k (match v with | .slice _ _ c => c | _ => 0) := by
        obtain ⟨b3, cap3, rfl, -⟩ := own_form HO.out (by omega)
        rfl
      obtain ⟨A, c, rfl⟩ : ∃ A c, v = .slice A k c := ⟨_, _, hv⟩
      clear hv
      have c0 := cellsAt HB1.out 0
      have c1 := cellsAt HB1.out 1
      have c2 := cellsAt HB1.out 2
      have d0 := cellsAt HB0.out 0
      have d1 := cellsAt HB0.out 1
      have d2 := cellsAt HB0.out 2
      have f0 := frozAt HB0.out 0
      have f1 := frozAt HB0.out 1
      have f2 := frozAt HB0.out 2
      simp at c0 c1 c2 d0 d1 d2
      go_wp2_with fail
      refine bodyPost_ret (v := .tuple #[.agg #[.slice A k c, .slice none 0 0, .int .i64 0], .int .i64 0]) (by simp [results, Try.results23, go_sem, d0, d1, d2]) rfl ⟨_, rfl, ?_, ?_⟩
      · have h1 := own_set (own_set (own_set HO.out (p := ⟨w.heap.size, 0, none⟩) (by show w.heap.size < _; omega) (.slice A k c)) (p := ⟨w.heap.size, 1, none⟩) (by show w.heap.size < _; omega) (.slice none 0 0)) (p := ⟨w.heap.size, 2, none⟩) (by show w.heap.size < _; omega) (.int .i64 0)
        exact Row.of_own Inp.cs_len h1 (by simp)
      · exact ((HW.out.setCell (p := ⟨w.heap.size, 0, none⟩) (Nat.le_refl _) _).setCell (p := ⟨w.heap.size, 1, none⟩) (Nat.le_refl _) _).setCell (p := ⟨w.heap.size, 2, none⟩) (Nat.le_refl _) _
end Go.Proofs.Ytdanfeldbdooeaa
