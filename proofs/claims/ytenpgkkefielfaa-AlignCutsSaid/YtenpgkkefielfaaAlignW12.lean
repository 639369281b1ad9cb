/-
  WALKS of layer 18: own.
-/
import Derived.Test.YtenpgkkefielfaaAlignW11
import Derived.Test.YtenpgkkefielfaaRowsPush
set_option linter.unusedVariables false
set_option linter.unusedSimpArgs false
namespace Go.Proofs.Ytenpgkkefielfaa
open Go.RowKit

/-- An aligner that shares nothing: a block of its own, its rows in blocks of their own. -/
def AOwn (a : Aln) (w : World) (e : Ending) (w' : World) : Prop :=
  ∃ p bg cg bh ch, e = .returned (.pointer (some ⟨p, 0, none⟩)) ∧ w.heap.size ≤ p ∧ w'.heap[p]? = some (.cells #[.int .i64 a.n, .slice bg a.got.length cg, .slice bh a.held.length ch] 92 (0, 0)) ∧ w'.ownsRow w.heap.size 4 1 (.slice bg a.got.length cg) a.got.length (a.got.flatMap bCs) ∧ w'.ownsRow w.heap.size 32 1 (.slice bh a.held.length ch) a.held.length (a.held.flatMap Hl.cs) ∧ (∀ x ∈ a.held, x.At w') ∧ Below w.heap.size w w'
set_option maxHeartbeats 2000000 in
set_option maxRecDepth 100000 in
theorem aown_any (a : Aln) (v : Value) (w : World) (hv : AlAt w v a) (l1 : a.got.length ≤ 1000) (l2 : a.held.length ≤ 1000) :
    Calls Try.prog 46 #[v] w (AOwn a w) := by
  have HV := Lib.hid hv
  obtain ⟨vg, vh, rfl, hn, ⟨h1, -⟩, h2, h3, -⟩ := hv
  have C1 := Lib.hid (fun W' vv (h : Row bCs 1 W' vv a.got) => cloneB_any a.got vv W' h (by omega) bCs_one)
  have C2 := Lib.hid (fun W' vv (h : Row Hl.cs 1 W' vv a.held) => cloneH_any a.held vv W' h (by omega) (Hl.cs_one h3))
  have H1 := Lib.hid h1
  have H2 := Lib.hid h2
  have H3 := Lib.hid h3
  obtain ⟨A1, q1, rfl, -⟩ := h1
  obtain ⟨A2, q2, rfl, -⟩ := h2
  clear h3
  go_enter Try.func46, Try.ntmps46
  go_wp2_with fail
  obtain ⟨g, hg⟩ : ∃ g, g = w.heap.size := ⟨_, rfl⟩
  obtain ⟨W, hW⟩ : ∃ W, W = (w.alloc (.cells #[.int .i64 a.n, .slice A1 a.got.length q1, .slice A2 a.held.length q2] 26)) := ⟨_, rfl⟩
  rw [← hW, ← hg]
  have k0 := show W.heap[g]? = some (.cells #[.int .i64 a.n, .slice A1 a.got.length q1, .slice A2 a.held.length q2] 26 (0, 0)) by rw [hW, hg]; exact heap_alloc_new w _
  have BW := Lib.hid (show Below w.heap.size w W by rw [hW]; exact bel_alloc (Below.refl _ _) _)
  have R1 := show Row bCs 1 W (.slice A1 a.got.length q1) a.got by rw [hW]; exact H1.out.alloc _
  have R2 := show Row Hl.cs 1 W (.slice A2 a.held.length q2) a.held by rw [hW]; exact H2.out.alloc _
  have HK0 := Lib.hid k0
  have HGw := Lib.hid hg
  have c0 := cellsAt k0 0
  have c1 := cellsAt k0 1
  have c2 := cellsAt k0 2
  have f0 := frozAt k0 1
  have f1 := frozAt k0 2
  have hgW := blk_lt k0
  simp at c0 c1 c2
  clear hW hg k0 H1 H2 HV
  go_region_with (first | (go_at_call 64; refine (C1.out _ _ (by assumption)).mono ?_; rintro e w3 ⟨v3, rfl, hO3, hb3⟩; obtain ⟨Av3, qv3, rfl⟩ := own_slice hO3; have w3g := Nat.lt_of_lt_of_le (by assumption : g < _) hb3.size; have w30 := (hb3.cell (p := ⟨g, 0, none⟩) (by assumption)).trans (by assumption : _ = some (Value.int .i64 a.n)); have w31 := (hb3.cell (p := ⟨g, 1, none⟩) (by assumption)).trans (by assumption : _ = some (Value.slice A1 a.got.length q1)); have w32 := (hb3.cell (p := ⟨g, 2, none⟩) (by assumption)).trans (by assumption : _ = some (Value.slice A2 a.held.length q2)); have w3f0 := (hb3.frozen (p := ⟨g, 1, none⟩) (by assumption)).trans (by assumption : _ = false); have w3f1 := (hb3.frozen (p := ⟨g, 2, none⟩) (by assumption)).trans (by assumption : _ = false); have w3r1 := Row.below (by assumption : Row bCs 1 _ (Value.slice A1 a.got.length q1) a.got) hb3; have w3r2 := Row.below (by assumption : Row Hl.cs 1 _ (Value.slice A2 a.held.length q2) a.held) hb3) | (go_at_call 65; refine (C2.out _ _ (by assumption)).mono ?_; rintro e w4 ⟨v4, rfl, hO4, hb4⟩; obtain ⟨Av4, qv4, rfl⟩ := own_slice hO4; have w4g := Nat.lt_of_lt_of_le (by assumption : g < _) hb4.size; have w40 := (hb4.cell (p := ⟨g, 0, none⟩) (by assumption)).trans (by assumption : _ = some (Value.int .i64 a.n)); have w41 := (hb4.cell (p := ⟨g, 1, none⟩) (by assumption)).trans (by assumption : _ = some (Value.slice A1 a.got.length q1)); have w42 := (hb4.cell (p := ⟨g, 2, none⟩) (by assumption)).trans (by assumption : _ = some (Value.slice A2 a.held.length q2)); have w4f0 := (hb4.frozen (p := ⟨g, 1, none⟩) (by assumption)).trans (by assumption : _ = false); have w4f1 := (hb4.frozen (p := ⟨g, 2, none⟩) (by assumption)).trans (by assumption : _ = false); have w4r1 := Row.below (by assumption : Row bCs 1 _ (Value.slice A1 a.got.length q1) a.got) hb4; have w4r2 := Row.below (by assumption : Row Hl.cs 1 _ (Value.slice A2 a.held.length q2) a.held) hb4))
  all_goals
    have BT : Hid (Below W.heap.size W w4) := Lib.hid (by first | exact bThen hb3 hb4 | exact bUndrew (bThen hb3 hb4))
    have hs3 : W.heap.size ≤ w3.heap.size := hb3.size
    have HK := heap_below HK0.out BT.out
    have HO3 := Lib.hid (own_base (own_below hO3 hb4) (by show g + 1 ≤ W.heap.size; omega))
    have HO4 := Lib.hid (own_base hO4 (by show g + 1 ≤ w3.heap.size; omega))
    clear hO3 hO4 hb3 hb4
    have E := blk_set (blk_set HK 1 (.slice Av3 a.got.length qv3)) 2 (.slice Av4 a.held.length qv4)
    simp at E
    have BB := bThen BW.out BT.out
    have hgg : w.heap.size ≤ g := by have := HGw.out; omega
    have BE := Lib.hid ((BB.setCell (p := ⟨g, 1, none⟩) hgg (.slice Av3 a.got.length qv3)).setCell (p := ⟨g, 2, none⟩) hgg (.slice Av4 a.held.length qv4))
    have P3 := Lib.hid (own_set (own_set HO3.out (p := ⟨g, 1, none⟩) (by show g < _; omega) (.slice Av3 a.got.length qv3)) (p := ⟨g, 2, none⟩) (by show g < _; omega) (.slice Av4 a.held.length qv4))
    have P4 := Lib.hid (own_set (own_set HO4.out (p := ⟨g, 1, none⟩) (by show g < _; omega) (.slice Av3 a.got.length qv3)) (p := ⟨g, 2, none⟩) (by show g < _; omega) (.slice Av4 a.held.length qv4))
    clear HK BB HO3 HO4 BT
    generalize (w4.setCell ⟨g, 1, none⟩ (.slice Av3 a.got.length qv3)).setCell ⟨g, 2, none⟩ (.slice Av4 a.held.length qv4) = W5 at *
    have e0 := cellsAt E 0
    have e1 := cellsAt E 1
    have e2 := cellsAt E 2
    have ez := blk_lt E
    simp at e0 e1 e2
    go_wp2_with fail
    go_ret
    refine ⟨W5.heap.size, Av3, qv3, Av4, qv4, rfl, BE.out.size, heap_at _ _ _ rfl, own_base (own_below P3.out (bel_alloc (Below.refl _ _) _)) (by omega), own_base (own_below P4.out (bel_alloc (Below.refl _ _) _)) (by omega), fun x hx => ?_, bel_alloc BE.out _⟩
    exact (H3.out x hx).below (bel_alloc BE.out _)
end Go.Proofs.Ytenpgkkefielfaa
