/-
  WALKS of layer 10: own.
-/
import Derived.Test.YtdanfeldbdooeaaMarkW7
set_option linter.unusedVariables false
set_option linter.unusedSimpArgs false
namespace Go.Proofs.Ytdanfeldbdooeaa
open Go.RowKit

/-- Marks that share nothing. -/
def OwnTo (li : List Inp) (lh : List Hld) (o : Int) (w : World) (e : Ending) (w' : World) : Prop :=
  ∃ vi vh, e = .returned (.agg #[vi, vh, .int .i64 o]) ∧ w'.ownsRow w.heap.size 45 2 vi li.length (li.flatMap Inp.cs) ∧ w'.ownsRow w.heap.size 47 2 vh lh.length (lh.flatMap Hld.cs) ∧ Below w.heap.size w w'
set_option maxHeartbeats 2000000 in
set_option maxRecDepth 100000 in
theorem own_any (li : List Inp) (lh : List Hld) (o : Int) (vi vh : Value) (w : World) (h1 : Row Inp.cs 2 w vi li) (h2 : Row Hld.cs 2 w vh lh) (l1 : li.length ≤ 1000000) (l2 : lh.length ≤ 1000000) :
    Calls Try.prog 47 #[.agg #[vi, vh, .int .i64 o]] w (OwnTo li lh o w) := by
  have C1 := Lib.hid (fun W' (h : Row Inp.cs 2 W' vi li) => cloneI_any li vi W' h l1)
  have C2 := Lib.hid (fun W' (h : Row Hld.cs 2 W' vh lh) => cloneH_any lh vh W' h l2)
  have H1 := Lib.hid h1
  have H2 := Lib.hid h2
  obtain ⟨A1, q1, rfl, -⟩ := h1
  obtain ⟨A2, q2, rfl, -⟩ := h2
  go_enter Try.func47, Try.ntmps47
  go_wp2_with fail
  obtain ⟨g, hg⟩ : ∃ g, g = w.heap.size := ⟨_, rfl⟩
  obtain ⟨W, hW⟩ : ∃ W, W = (w.alloc (.cells #[.slice A1 li.length q1, .slice A2 lh.length q2, .int .i64 o] 25)).alloc (.cells #[.slice none 0 0, .slice none 0 0, .int .i64 0] 25) := ⟨_, rfl⟩
  rw [← hW, ← hg]
  have k0 := show W.heap[g]? = some (.cells #[.slice A1 li.length q1, .slice A2 lh.length q2, .int .i64 o] 25 (0, 0)) by rw [hW, hg]; exact (Below.heap_alloc _ _ _ (by simp)).trans (heap_alloc_new w _)
  have k1 := show W.heap[g + 1]? = some (.cells #[.slice none 0 0, .slice none 0 0, .int .i64 0] 25 (0, 0)) by rw [hW, hg]; exact heap_at _ _ _ (by simp)
  have BW := Lib.hid (show Below w.heap.size w W by rw [hW]; exact bel_alloc (bel_alloc (Below.refl _ _) _) _)
  have R1 := show Row Inp.cs 2 W (.slice A1 li.length q1) li by rw [hW]; exact (H1.out.alloc _).alloc _
  have R2 := show Row Hld.cs 2 W (.slice A2 lh.length q2) lh by rw [hW]; exact (H2.out.alloc _).alloc _
  have HK1 := Lib.hid k1
  have HGw := Lib.hid hg
  have c0 := cellsAt k0 0
  have c1 := cellsAt k0 1
  have c2 := cellsAt k0 2
  have f0 := frozAt k0 0
  have f1 := frozAt k0 1
  have hgW := blk_lt k0
  simp at c0 c1 c2
  clear hW hg k0 k1 H1 H2
  go_region_with (first | (go_at_call 74; refine (C1.out _ (by assumption)).mono ?_; rintro e w3 ⟨v3, rfl, hO3, hb3⟩; obtain ⟨Av3, qv3, rfl⟩ := own_slice hO3; have w3g := Nat.lt_of_lt_of_le (by assumption : g < _) hb3.size; have w30 := (hb3.cell (p := ⟨g, 0, none⟩) (by assumption)).trans (by assumption : _ = some (Value.slice A1 li.length q1)); have w31 := (hb3.cell (p := ⟨g, 1, none⟩) (by assumption)).trans (by assumption : _ = some (Value.slice A2 lh.length q2)); have w32 := (hb3.cell (p := ⟨g, 2, none⟩) (by assumption)).trans (by assumption : _ = some (Value.int .i64 o)); have w3f0 := (hb3.frozen (p := ⟨g, 0, none⟩) (by assumption)).trans (by assumption : _ = false); have w3f1 := (hb3.frozen (p := ⟨g, 1, none⟩) (by assumption)).trans (by assumption : _ = false); have w3r1 := Row.below (by assumption : Row Inp.cs 2 _ (Value.slice A1 li.length q1) li) hb3; have w3r2 := Row.below (by assumption : Row Hld.cs 2 _ (Value.slice A2 lh.length q2) lh) hb3) | (go_at_call 75; refine (C2.out _ (by assumption)).mono ?_; rintro e w4 ⟨v4, rfl, hO4, hb4⟩; obtain ⟨Av4, qv4, rfl⟩ := own_slice hO4; have w4g := Nat.lt_of_lt_of_le (by assumption : g < _) hb4.size; have w40 := (hb4.cell (p := ⟨g, 0, none⟩) (by assumption)).trans (by assumption : _ = some (Value.slice A1 li.length q1)); have w41 := (hb4.cell (p := ⟨g, 1, none⟩) (by assumption)).trans (by assumption : _ = some (Value.slice A2 lh.length q2)); have w42 := (hb4.cell (p := ⟨g, 2, none⟩) (by assumption)).trans (by assumption : _ = some (Value.int .i64 o)); have w4f0 := (hb4.frozen (p := ⟨g, 0, none⟩) (by assumption)).trans (by assumption : _ = false); have w4f1 := (hb4.frozen (p := ⟨g, 1, none⟩) (by assumption)).trans (by assumption : _ = false); have w4r1 := Row.below (by assumption : Row Inp.cs 2 _ (Value.slice A1 li.length q1) li) hb4; have w4r2 := Row.below (by assumption : Row Hld.cs 2 _ (Value.slice A2 lh.length q2) lh) hb4))
  all_goals
    have BT : Hid (Below W.heap.size W w4) := Lib.hid (by first | exact bThen hb3 hb4 | exact bUndrew (bThen hb3 hb4))
    have hs3 : W.heap.size ≤ w3.heap.size := hb3.size
    have hK := (BT.out.block (g + 1) (blk_lt HK1.out)).trans HK1.out
    have z0 := cellsAt hK 0
    have z1 := cellsAt hK 1
    have z2 := cellsAt hK 2
    have y0 := frozAt hK 0
    have y1 := frozAt hK 1
    have y2 := frozAt hK 2
    simp at z0 z1 z2
    have HG1 := blk_lt HK1.out
    have HO3 := Lib.hid (own_base (own_below hO3 hb4) (by show g + 2 ≤ W.heap.size; omega))
    have HO4 := Lib.hid (own_base hO4 (by show g + 2 ≤ w3.heap.size; omega))
    clear hK hO3 hO4 hb3 hb4 hs3
    go_wp2_with fail
    refine bodyPost_ret (v := .agg #[.slice Av3 li.length qv3, .slice Av4 lh.length qv4, .int .i64 o]) (by simp [results, Try.results47, go_sem, z0, z1, z2]) rfl ⟨_, _, rfl, ?_, ?_, ?_⟩
    · exact own_base (own_set (own_set (own_set (own_set (own_set HO3.out (p := ⟨g, 0, none⟩) (by show g < _; omega) _) (p := ⟨g, 1, none⟩) (by show g < _; omega) _) (p := ⟨g + 1, 0, none⟩) (by show g + 1 < _; omega) _) (p := ⟨g + 1, 1, none⟩) (by show g + 1 < _; omega) _) (p := ⟨g + 1, 2, none⟩) (by show g + 1 < _; omega) _) (by have := HGw.out; omega)
    · exact own_base (own_set (own_set (own_set (own_set (own_set HO4.out (p := ⟨g, 0, none⟩) (by show g < _; omega) _) (p := ⟨g, 1, none⟩) (by show g < _; omega) _) (p := ⟨g + 1, 0, none⟩) (by show g + 1 < _; omega) _) (p := ⟨g + 1, 1, none⟩) (by show g + 1 < _; omega) _) (p := ⟨g + 1, 2, none⟩) (by show g + 1 < _; omega) _) (by have := HGw.out; omega)
    · exact ((((((bThen BW.out BT.out).setCell (p := ⟨g, 0, none⟩) (by show w.heap.size ≤ g; have := HGw.out; omega) _).setCell (p := ⟨g, 1, none⟩) (by show w.heap.size ≤ g; have := HGw.out; omega) _).setCell (p := ⟨g + 1, 0, none⟩) (by show w.heap.size ≤ g + 1; have := HGw.out; omega) _).setCell (p := ⟨g + 1, 1, none⟩) (by show w.heap.size ≤ g + 1; have := HGw.out; omega) _).setCell (p := ⟨g + 1, 2, none⟩) (by show w.heap.size ≤ g + 1; have := HGw.out; omega) _)
end Go.Proofs.Ytdanfeldbdooeaa
