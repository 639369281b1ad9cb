/-
  WALKS of the law TopDue: a timer is pushed.
-/
import Derived.Test.YtlboehpgpbchhaaDueW5
set_option linter.unusedVariables false
set_option linter.unusedSimpArgs false
namespace Go.Proofs.Ytlboehpgpbchhaa
open Go.RowKit

theorem ta_tm (v : Value) (w : World) : (Instr.typeAssert (.iface 62 v) 20 62 true).run Try.prog w = .ok (.tuple #[v, .bool true]) w := by kernel_rfl
theorem info_tm : (Try.prog.info? 62).map (fun i => (i.zero, i.size, i.bytes)) = some (some (.agg #[.int .i64 0, .string ⟨#[]⟩]), 2, 24) := by kernel_rfl
theorem tm_one (q : Tm) : ∀ u ∈ q.cs, u.oneCell' = true := by
  intro u hu
  unfold Tm.cs at hu
  simp at hu
  rcases hu with rfl | rfl <;> rfl
set_option maxRecDepth 100000 in
set_option maxHeartbeats 4000000 in
theorem rpush_any (hb : Nat) (v : Value) (l : List Tm) (x : Tm) (w : World) (hw : HpAt hb v l w) (hl : l.length ≤ 1000) :
    Calls Try.prog 152 #[.pointer (some ⟨hb, 0, none⟩), .iface 62 x.val] w fun e w' => e = .returned (.tuple #[]) ∧ (∃ v', HpAt hb v' (l ++ [x]) w') ∧ Below hb w w' := by
  have HW := Lib.hid hw
  obtain ⟨A, c, rfl⟩ := own_slice hw.2
  obtain ⟨n, hn⟩ : ∃ n, l.length = n := ⟨_, rfl⟩
  have HN := Lib.hid hn
  rw [hn] at HW hl
  clear hw hn
  have HO := Lib.hid (show w.ownsRow (hb + 1) 62 2 (.slice A n c) n (l.flatMap Tm.cs) by have h := HW.out.2; rw [HN.out] at h; exact h)
  obtain ⟨i0, hi, hz0, hz1, hz2⟩ := info_parts info_tm
  have HI := Lib.hid hi
  have HZ0 := Lib.hid hz0
  have HZ1 := Lib.hid hz1
  have HZ2 := Lib.hid hz2
  clear hi hz0 hz1 hz2
  obtain ⟨xa, xs⟩ := x
  unfold Tm.val
  simp only
  have z := blk_lt HW.out.1
  have c0 := cellsAt HW.out.1 0
  simp at c0
  have hta : ∀ w, (Instr.typeAssert (.iface 62 (.agg #[.int .i64 xa, .string xs])) 20 62 true).run Try.prog w = .ok (.tuple #[.agg #[.int .i64 xa, .string xs], .bool true]) w := fun w => ta_tm _ w
  go_enter Try.func152, Try.ntmps152
  go_upto_region 2 with fail
  obtain ⟨W2, hW2⟩ : ∃ X, X = w.alloc (.cells #[.int .i64 xa, .string xs] 62) := ⟨_, rfl⟩
  rw [← hW2]
  have B2 := Lib.hid (show Below w.heap.size w W2 by rw [hW2]; exact bel_alloc (Below.refl _ _) _)
  have Bp := Lib.hid (show W2.heap[w.heap.size]? = some (.cells #[.int .i64 xa, .string xs] 62 (0, 0)) by rw [hW2]; exact heap_at _ _ _ rfl)
  clear hW2 c0 z
  have HW2 := HW.out.below B2.out
  have O2 := Lib.hid (own_below HO.out B2.out)
  have z := blk_lt HW2.1
  have c0 := cellsAt HW2.1 0
  have zp := blk_lt Bp.out
  have p0 := cellsAt Bp.out 0
  have p1 := cellsAt Bp.out 1
  simp at c0 p0 p1
  have HH := Lib.hid HW2
  clear HW2
  have HHX := Lib.hid (heap_below HH.out.1 (bel_alloc (Below.refl W2.heap.size W2) (.cells #[.int .i64 xa, .string xs] 62)))
  go_region_law (first | (refine step_own rfl _ _ 96 rfl (hb + 1) 62 i0 (.agg #[.int .i64 0, .string ⟨#[]⟩]) 2 24 Try.underlying96 HI.out HZ0.out HZ1.out HZ2.out rfl (by decide) _ _ _ rfl (World.ownsRow.alloc O2.out _) _ 1 1 [.int .i64 xa, .string xs] rfl rfl (fun j u h => rs_news W2 _ _ _ rfl j u h) (tm_one ⟨xa, xs⟩) (by unfold maxLen; omega) (by omega) (by simp; omega) ?_; intro v5 W5 hown5 hgrow5 _; obtain ⟨A5, c5, rfl⟩ := own_slice hown5; have h5 := (hgrow5.block hb (show hb < (W2.alloc (.cells #[.int .i64 xa, .string xs] 62)).heap.size by simp; omega) (fun e => HH.out.blk e.symm)).trans HHX.out; have z5 := blk_lt h5; have q5 := cellsAt h5 0; have f5 := frozAt h5; simp at q5))
  all_goals
    have hp := blk_set h5 0 (.slice A5 (n + 1) c5)
    simp at hp
    have ho := own_set hown5 (p := ⟨hb, 0, none⟩) (Nat.lt_succ_self hb) (.slice A5 (n + 1) c5)
    have hg5 : (W2.alloc (.cells #[.int .i64 xa, .string xs] 62)).grownBy W5 (Value.slice A n c).ownBlock := ⟨hgrow5.os, hgrow5.tape, hgrow5.output, hgrow5.size, hgrow5.block⟩
    have hbl : Below hb w (W5.setCell ⟨hb, 0, none⟩ (.slice A5 (n + 1) c5)) := (((bel_alloc B2.out _).mono (Nat.le_of_lt (blk_lt HW.out.1))).grown hg5 (by simp; omega) (fun k e => by have := (O2.out.lt k e).1; omega)).setCell (p := ⟨hb, 0, none⟩) (Nat.le_refl _) _
    have hfin : HpAt hb (.slice A5 (n + 1) c5) (l ++ [⟨xa, xs⟩]) (W5.setCell ⟨hb, 0, none⟩ (.slice A5 (n + 1) c5)) := ⟨hp, by rw [List.length_append, HN.out, List.flatMap_append]; exact ho⟩
    have HF := Lib.hid hfin
    have HBL := Lib.hid hbl
    clear hp ho hg5 hbl hfin hgrow5 hown5 h5 z5 q5 f5
    go_wp2_with fail
    go_end0
    exact ⟨rfl, ⟨_, HF.out⟩, HBL.out⟩
end Go.Proofs.Ytlboehpgpbchhaa
