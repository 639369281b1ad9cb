/-
  WALK of the law MarkMakes.
-/
import Derived.Test.YtdanfeldbdooeaaMarkW4
namespace Go.Proofs.Ytdanfeldbdooeaa
open Go.RowKit

theorem keepM {W w' w'' : World} {g0 g1 g2 : Nat} {a0 a1 a2 b0 b1 b2 c0 c1 c2 : Value} (hg0 : g0 < W.heap.size) (hg1 : g1 < W.heap.size) (hg2 : g2 < W.heap.size) (h : Below W.heap.size W w' ∧ w'.cell? ⟨g0, 0, none⟩ = some a0 ∧ w'.cell? ⟨g0, 1, none⟩ = some a1 ∧ w'.cell? ⟨g0, 2, none⟩ = some a2 ∧ w'.cell? ⟨g1, 0, none⟩ = some b0 ∧ w'.cell? ⟨g1, 1, none⟩ = some b1 ∧ w'.cell? ⟨g1, 2, none⟩ = some b2 ∧ w'.cell? ⟨g2, 0, none⟩ = some c0 ∧ w'.cell? ⟨g2, 1, none⟩ = some c1 ∧ w'.cell? ⟨g2, 2, none⟩ = some c2) (hb : Below w'.heap.size w' w'') : Below W.heap.size W w'' ∧ w''.cell? ⟨g0, 0, none⟩ = some a0 ∧ w''.cell? ⟨g0, 1, none⟩ = some a1 ∧ w''.cell? ⟨g0, 2, none⟩ = some a2 ∧ w''.cell? ⟨g1, 0, none⟩ = some b0 ∧ w''.cell? ⟨g1, 1, none⟩ = some b1 ∧ w''.cell? ⟨g1, 2, none⟩ = some b2 ∧ w''.cell? ⟨g2, 0, none⟩ = some c0 ∧ w''.cell? ⟨g2, 1, none⟩ = some c1 ∧ w''.cell? ⟨g2, 2, none⟩ = some c2 := by
  obtain ⟨b, c0, c1, c2, c3, c4, c5, c6, c7, c8⟩ := h
  have hs := b.size
  exact ⟨b.trans (hb.mono hs), (hb.cell (p := ⟨g0, 0, none⟩) (Nat.lt_of_lt_of_le hg0 hs)).trans c0, (hb.cell (p := ⟨g0, 1, none⟩) (Nat.lt_of_lt_of_le hg0 hs)).trans c1, (hb.cell (p := ⟨g0, 2, none⟩) (Nat.lt_of_lt_of_le hg0 hs)).trans c2, (hb.cell (p := ⟨g1, 0, none⟩) (Nat.lt_of_lt_of_le hg1 hs)).trans c3, (hb.cell (p := ⟨g1, 1, none⟩) (Nat.lt_of_lt_of_le hg1 hs)).trans c4, (hb.cell (p := ⟨g1, 2, none⟩) (Nat.lt_of_lt_of_le hg1 hs)).trans c5, (hb.cell (p := ⟨g2, 0, none⟩) (Nat.lt_of_lt_of_le hg2 hs)).trans c6, (hb.cell (p := ⟨g2, 1, none⟩) (Nat.lt_of_lt_of_le hg2 hs)).trans c7, (hb.cell (p := ⟨g2, 2, none⟩) (Nat.lt_of_lt_of_le hg2 hs)).trans c8⟩
theorem keepMD {W w' : World} {g0 g1 g2 : Nat} {a0 a1 a2 b0 b1 b2 c0 c1 c2 : Value} (h : Below W.heap.size W w' ∧ w'.cell? ⟨g0, 0, none⟩ = some a0 ∧ w'.cell? ⟨g0, 1, none⟩ = some a1 ∧ w'.cell? ⟨g0, 2, none⟩ = some a2 ∧ w'.cell? ⟨g1, 0, none⟩ = some b0 ∧ w'.cell? ⟨g1, 1, none⟩ = some b1 ∧ w'.cell? ⟨g1, 2, none⟩ = some b2 ∧ w'.cell? ⟨g2, 0, none⟩ = some c0 ∧ w'.cell? ⟨g2, 1, none⟩ = some c1 ∧ w'.cell? ⟨g2, 2, none⟩ = some c2) : Below W.heap.size W w'.drew ∧ w'.drew.cell? ⟨g0, 0, none⟩ = some a0 ∧ w'.drew.cell? ⟨g0, 1, none⟩ = some a1 ∧ w'.drew.cell? ⟨g0, 2, none⟩ = some a2 ∧ w'.drew.cell? ⟨g1, 0, none⟩ = some b0 ∧ w'.drew.cell? ⟨g1, 1, none⟩ = some b1 ∧ w'.drew.cell? ⟨g1, 2, none⟩ = some b2 ∧ w'.drew.cell? ⟨g2, 0, none⟩ = some c0 ∧ w'.drew.cell? ⟨g2, 1, none⟩ = some c1 ∧ w'.drew.cell? ⟨g2, 2, none⟩ = some c2 := ⟨h.1.drew, h.2⟩
/-- What New answers. -/
def NewAs (l : List Inp) (er : Int) (w : World) (e : Ending) (w' : World) : Prop :=
  ∃ v, e = .returned (.tuple #[.agg #[v, .slice none 0 0, .int .i64 0], .int .i64 er]) ∧ Row Inp.cs 2 w' v l ∧ Below w.heap.size w w'
theorem new_both (n : Int) : ∃ l er, l.length ≤ 8 ∧ (∀ w, Calls Try.prog 17 #[.int .i64 n] w (NewAs l er w)) ∧ (∀ w, Calls Try.prog 23 #[.int .i64 n] w (NewAs l er w)) := by
  by_cases h : n < 1 ∨ 8 < n
  · exact ⟨[], 1, by simp, fun w => (mnew_no n w h).mono fun _ _ ⟨h1, h2⟩ => ⟨_, h1, Row.none_, h2⟩, fun w => (rmnew_no n w h).mono fun _ _ ⟨h1, h2⟩ => ⟨_, h1, Row.none_, h2⟩⟩
  · exact ⟨List.replicate n.toNat inZ, 0, by simp; omega, fun w => (mnew_yes n n.toNat (by omega) w (by omega) (by omega)).mono fun _ _ h => h, fun w => (rmnew_yes n n.toNat (by omega) w (by omega) (by omega)).mono fun _ _ h => h⟩
theorem MarksAt.below {W W' : World} {v : Value} {li : List Inp} {lh : List Hld} {o : Int} (h : MarksAt W v li lh o) (hb : Below W.heap.size W W') : MarksAt W' v li lh o := by
  obtain ⟨vi, vh, h0, h1, h2, h3⟩ := h
  exact ⟨vi, vh, h0, h1.below hb, h2.below hb, h3⟩
set_option maxHeartbeats 2000000 in
set_option maxRecDepth 100000 in
theorem makes_walk (n : Int) (v : Value) (li : List Inp) (lh : List Hld) (o : Int) (w : World) (h : MarksAt w v li lh o) :
    Calls Try.prog 5 #[.int .i64 n, v] w fun e w' => e = .returned (.bool true) ∧ Below w.heap.size w w' := by
  have HM := Lib.hid h
  obtain ⟨vi, vh, rfl, -⟩ := h
  obtain ⟨L, er, hL, h1, h2⟩ := new_both n
  have H1 := Lib.hid h1
  have H2 := Lib.hid h2
  have HL := Lib.hid hL
  clear h1 h2 hL
  obtain ⟨q, hq⟩ : ∃ q, rightM li lh o = q := ⟨_, rfl⟩
  have Hq := Lib.hid hq
  clear hq
  go_enter Try.func5, Try.ntmps5
  go_wp2_with fail
  refine (H1.out _).mono ?_
  rintro e w1 ⟨va, rfl, hr, hb⟩
  have K1 := Lib.hid (newA hb)
  have R1 := Lib.hid hr
  obtain ⟨A1, q1, rfl, -, -⟩ := hr
  have B1 := Lib.hid (belA (Below.refl _ _) hb)
  clear hb
  go_wp2_with fail
  refine (H2.out _).mono ?_
  rintro e w2 ⟨vb, rfl, hr, hb⟩
  have hl1 := blk_lt K1.out
  have K2 := Lib.hid (newA hb)
  have K3 := Lib.hid ((hb.block w.heap.size (by simp; omega)).trans ((Below.heap_alloc w1 _ _ hl1).trans K1.out))
  have R2 := Lib.hid hr
  obtain ⟨A2, q2, rfl, -, -⟩ := hr
  have R3 := Lib.hid ((R1.out.alloc (.cells #[.slice A1 L.length q1, .slice none 0 0, .int .i64 0] 25)).below hb)
  have B2 := Lib.hid (belA B1.out hb)
  have hl2 := blk_lt K2.out
  clear hb K1 R1
  go_wp2_with fail
  obtain ⟨g0, hg0⟩ : ∃ g, g = w.heap.size := ⟨_, rfl⟩
  obtain ⟨g1, hg1⟩ : ∃ g, g = w1.heap.size := ⟨_, rfl⟩
  obtain ⟨g2, hg2⟩ : ∃ g, g = w2.heap.size := ⟨_, rfl⟩
  obtain ⟨W, hW⟩ : ∃ W, W = w2.alloc (.cells #[.slice A2 L.length q2, .slice none 0 0, .int .i64 0] 25) := ⟨_, rfl⟩
  rw [← hW, ← hg0, ← hg1, ← hg2]
  have k0 := show W.heap[g0]? = some (.cells #[vi, vh, .int .i64 o] 25 (0, 0)) by rw [hW, hg0]; exact (Below.heap_alloc w2 _ _ (blk_lt K3.out)).trans K3.out
  have k1 := show W.heap[g1]? = some (.cells #[.slice A1 L.length q1, .slice none 0 0, .int .i64 0] 25 (0, 0)) by rw [hW, hg1]; exact (Below.heap_alloc w2 _ _ (blk_lt K2.out)).trans K2.out
  have k2 := show W.heap[g2]? = some (.cells #[.slice A2 L.length q2, .slice none 0 0, .int .i64 0] 25 (0, 0)) by rw [hW, hg2]; exact heap_alloc_new _ _
  have BW := Lib.hid (show Below w.heap.size w W by rw [hW]; exact bel_alloc B2.out _)
  have RA := show Row Inp.cs 2 W (.slice A1 L.length q1) L by rw [hW]; exact R3.out.alloc _
  have RB := show Row Inp.cs 2 W (.slice A2 L.length q2) L by rw [hW]; exact R2.out.alloc _
  have MW := show MarksAt W _ li lh o from HM.out.below (BW.out.mono (Nat.le_refl _))
  have hS : Below W.heap.size W W ∧ W.cell? ⟨g0, 0, none⟩ = some (vi) ∧ W.cell? ⟨g0, 1, none⟩ = some (vh) ∧ W.cell? ⟨g0, 2, none⟩ = some (.int .i64 o) ∧ W.cell? ⟨g1, 0, none⟩ = some (.slice A1 L.length q1) ∧ W.cell? ⟨g1, 1, none⟩ = some (.slice none 0 0) ∧ W.cell? ⟨g1, 2, none⟩ = some (.int .i64 0) ∧ W.cell? ⟨g2, 0, none⟩ = some (.slice A2 L.length q2) ∧ W.cell? ⟨g2, 1, none⟩ = some (.slice none 0 0) ∧ W.cell? ⟨g2, 2, none⟩ = some (.int .i64 0) := ⟨Below.refl _ _, cellsAt k0 0, cellsAt k0 1, cellsAt k0 2, cellsAt k1 0, cellsAt k1 1, cellsAt k1 2, cellsAt k2 0, cellsAt k2 1, cellsAt k2 2⟩
  have G0 := blk_lt k0
  have G1 := blk_lt k1
  have G2 := blk_lt k2
  have CL := Lib.hid (fun w' (hb : Below W.heap.size W w') => likeM_same L [] 0 (.slice A1 L.length q1) (.slice none 0 0) (.slice A2 L.length q2) (.slice none 0 0) w' (RA.below hb) Row.none_ (RB.below hb) Row.none_ (by have := HL.out; omega) (by simp))
  have CR := Lib.hid (fun w' (hb : Below W.heap.size W w') => mright_any li lh o _ w' (MW.below hb) q Hq.out)
  have CS := Lib.hid (fun w' (hb : Below W.heap.size W w') => rmright_any li lh o _ w' (MW.below hb) q Hq.out)
  clear hW hg0 hg1 hg2 k0 k1 k2 RA RB MW hl1 hl2
  go_region_held3 (fun w' => Below W.heap.size W w' ∧ w'.cell? ⟨g0, 0, none⟩ = some (vi) ∧ w'.cell? ⟨g0, 1, none⟩ = some (vh) ∧ w'.cell? ⟨g0, 2, none⟩ = some (.int .i64 o) ∧ w'.cell? ⟨g1, 0, none⟩ = some (.slice A1 L.length q1) ∧ w'.cell? ⟨g1, 1, none⟩ = some (.slice none 0 0) ∧ w'.cell? ⟨g1, 2, none⟩ = some (.int .i64 0) ∧ w'.cell? ⟨g2, 0, none⟩ = some (.slice A2 L.length q2) ∧ w'.cell? ⟨g2, 1, none⟩ = some (.slice none 0 0) ∧ w'.cell? ⟨g2, 2, none⟩ = some (.int .i64 0)) (first | assumption | exact keepMD (by assumption) | exact keepM (by assumption) (by assumption) (by assumption) (by assumption) (by assumption)) (first | (go_at_call 15; refine (malive_any _).mono ?_; rintro e w3 ⟨rfl, hb3⟩) | (go_at_call 16; refine (CL.out _ (And.left (by assumption))).mono ?_; rintro e w3 ⟨rfl, hb3⟩) | (go_at_call 24; refine (CR.out _ (And.left (by assumption))).mono ?_; rintro e w3 ⟨rfl, hb3⟩) | (go_at_call 25; refine (CS.out _ (And.left (by assumption))).mono ?_; rintro e w3 ⟨rfl, hb3⟩))
  go_wp2_with fail
  go_ret
  exact ⟨rfl, bThen BW.out (by first | assumption | exact And.left (by assumption))⟩
end Go.Proofs.Ytdanfeldbdooeaa
