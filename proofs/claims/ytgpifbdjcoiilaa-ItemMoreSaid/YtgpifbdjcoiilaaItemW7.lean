/-
  WALK: ItemRights.
-/
import Derived.Test.YtgpifbdjcoiilaaItemW6
import Derived.Deep.RegionHeld3
namespace Go.Proofs.Ytgpifbdjcoiilaa
open Go.RowKit

theorem new_cellD (W : World) (cs : Array Value) (T : TypeId) (j : Nat) : (W.alloc (.cells cs T)).cell? ⟨W.heap.size, j, none⟩ = cs[j]? := new_cellI W cs T _ j
theorem cell_keep {w w1 w2 : World} {p : Addr} {v : Value} (hb : Below w1.heap.size w1 w2) (h0 : Below w.heap.size w w1) (hp : p.block < w.heap.size) (h : w1.cell? p = some v) : w2.cell? p = some v :=
  (hb.cell (p := p) (Nat.lt_of_lt_of_le hp h0.size)).trans h

theorem keepB (kind : Int) (ek : ByteArray) (ea ev ma n lo hi : Int) (rk : ByteArray) (rn rv : Int) (k : ByteArray) (a v : Int) {g : Nat} {W w' w2 : World} (hp : g + 1 < W.heap.size) (h : Below W.heap.size W w' ∧ w'.cell? ⟨g, 0, none⟩ = some (.int .i64 kind) ∧ w'.cell? ⟨g, 1, none⟩ = some (.string ek) ∧ w'.cell? ⟨g, 2, none⟩ = some (.int .i64 ea) ∧ w'.cell? ⟨g, 3, none⟩ = some (.int .i64 ev) ∧ w'.cell? ⟨g, 4, none⟩ = some (.int .i64 ma) ∧ w'.cell? ⟨g, 5, none⟩ = some (.int .i64 n) ∧ w'.cell? ⟨g, 6, none⟩ = some (.int .i64 lo) ∧ w'.cell? ⟨g, 7, none⟩ = some (.int .i64 hi) ∧ w'.cell? ⟨g, 8, none⟩ = some (.string rk) ∧ w'.cell? ⟨g, 9, none⟩ = some (.int .i64 rn) ∧ w'.cell? ⟨g, 10, none⟩ = some (.int .i64 rv) ∧ w'.cell? ⟨g + 1, 0, none⟩ = some (.string k) ∧ w'.cell? ⟨g + 1, 1, none⟩ = some (.int .i64 a) ∧ w'.cell? ⟨g + 1, 2, none⟩ = some (.int .i64 v)) (hb : Below w'.heap.size w' w2) : Below W.heap.size W w2 ∧ w2.cell? ⟨g, 0, none⟩ = some (.int .i64 kind) ∧ w2.cell? ⟨g, 1, none⟩ = some (.string ek) ∧ w2.cell? ⟨g, 2, none⟩ = some (.int .i64 ea) ∧ w2.cell? ⟨g, 3, none⟩ = some (.int .i64 ev) ∧ w2.cell? ⟨g, 4, none⟩ = some (.int .i64 ma) ∧ w2.cell? ⟨g, 5, none⟩ = some (.int .i64 n) ∧ w2.cell? ⟨g, 6, none⟩ = some (.int .i64 lo) ∧ w2.cell? ⟨g, 7, none⟩ = some (.int .i64 hi) ∧ w2.cell? ⟨g, 8, none⟩ = some (.string rk) ∧ w2.cell? ⟨g, 9, none⟩ = some (.int .i64 rn) ∧ w2.cell? ⟨g, 10, none⟩ = some (.int .i64 rv) ∧ w2.cell? ⟨g + 1, 0, none⟩ = some (.string k) ∧ w2.cell? ⟨g + 1, 1, none⟩ = some (.int .i64 a) ∧ w2.cell? ⟨g + 1, 2, none⟩ = some (.int .i64 v) := by
  have hg1 : g < W.heap.size := by omega
  obtain ⟨hB0, c0, c1, c2, c3, c4, c5, c6, c7, c8, c9, c10, c11, c12, c13⟩ := h
  exact ⟨hB0.trans (hb.mono hB0.size), cell_keep hb hB0 hg1 c0, cell_keep hb hB0 hg1 c1, cell_keep hb hB0 hg1 c2, cell_keep hb hB0 hg1 c3, cell_keep hb hB0 hg1 c4, cell_keep hb hB0 hg1 c5, cell_keep hb hB0 hg1 c6, cell_keep hb hB0 hg1 c7, cell_keep hb hB0 hg1 c8, cell_keep hb hB0 hg1 c9, cell_keep hb hB0 hg1 c10, cell_keep hb hB0 hp c11, cell_keep hb hB0 hp c12, cell_keep hb hB0 hp c13⟩
theorem keepD (kind : Int) (ek : ByteArray) (ea ev ma n lo hi : Int) (rk : ByteArray) (rn rv : Int) (k : ByteArray) (a v : Int) {g : Nat} {W w' : World} (h : Below W.heap.size W w' ∧ w'.cell? ⟨g, 0, none⟩ = some (.int .i64 kind) ∧ w'.cell? ⟨g, 1, none⟩ = some (.string ek) ∧ w'.cell? ⟨g, 2, none⟩ = some (.int .i64 ea) ∧ w'.cell? ⟨g, 3, none⟩ = some (.int .i64 ev) ∧ w'.cell? ⟨g, 4, none⟩ = some (.int .i64 ma) ∧ w'.cell? ⟨g, 5, none⟩ = some (.int .i64 n) ∧ w'.cell? ⟨g, 6, none⟩ = some (.int .i64 lo) ∧ w'.cell? ⟨g, 7, none⟩ = some (.int .i64 hi) ∧ w'.cell? ⟨g, 8, none⟩ = some (.string rk) ∧ w'.cell? ⟨g, 9, none⟩ = some (.int .i64 rn) ∧ w'.cell? ⟨g, 10, none⟩ = some (.int .i64 rv) ∧ w'.cell? ⟨g + 1, 0, none⟩ = some (.string k) ∧ w'.cell? ⟨g + 1, 1, none⟩ = some (.int .i64 a) ∧ w'.cell? ⟨g + 1, 2, none⟩ = some (.int .i64 v)) : Below W.heap.size W w'.drew ∧ w'.drew.cell? ⟨g, 0, none⟩ = some (.int .i64 kind) ∧ w'.drew.cell? ⟨g, 1, none⟩ = some (.string ek) ∧ w'.drew.cell? ⟨g, 2, none⟩ = some (.int .i64 ea) ∧ w'.drew.cell? ⟨g, 3, none⟩ = some (.int .i64 ev) ∧ w'.drew.cell? ⟨g, 4, none⟩ = some (.int .i64 ma) ∧ w'.drew.cell? ⟨g, 5, none⟩ = some (.int .i64 n) ∧ w'.drew.cell? ⟨g, 6, none⟩ = some (.int .i64 lo) ∧ w'.drew.cell? ⟨g, 7, none⟩ = some (.int .i64 hi) ∧ w'.drew.cell? ⟨g, 8, none⟩ = some (.string rk) ∧ w'.drew.cell? ⟨g, 9, none⟩ = some (.int .i64 rn) ∧ w'.drew.cell? ⟨g, 10, none⟩ = some (.int .i64 rv) ∧ w'.drew.cell? ⟨g + 1, 0, none⟩ = some (.string k) ∧ w'.drew.cell? ⟨g + 1, 1, none⟩ = some (.int .i64 a) ∧ w'.drew.cell? ⟨g + 1, 2, none⟩ = some (.int .i64 v) := ⟨h.1.drew, h.2⟩
set_option maxHeartbeats 2000000 in
set_option maxRecDepth 100000 in
theorem rights_walk (kind : Int) (ek : ByteArray) (ea ev ma n lo hi : Int) (rk : ByteArray) (rn rv : Int) (k : ByteArray) (a v : Int) (w : World) :
    Calls Try.prog 19 #[.agg #[.int .i64 kind, .string ek, .int .i64 ea, .int .i64 ev, .int .i64 ma, .int .i64 n, .int .i64 lo, .int .i64 hi, .string rk, .int .i64 rn, .int .i64 rv], .agg #[.string k, .int .i64 a, .int .i64 v]] w fun e w' => e = .returned (.bool true) ∧ Below w.heap.size w w' := by
  obtain ⟨R, hR⟩ : ∃ R, rightI ⟨kind, ek, ea, ev, ma, n, lo, hi, rk, rn, rv⟩ = R := ⟨_, rfl⟩
  obtain ⟨E, hE⟩ : ∃ E, evB k a = E := ⟨_, rfl⟩
  have H1 := Lib.hid (fun W => right_any ⟨kind, ek, ea, ev, ma, n, lo, hi, rk, rn, rv⟩ W R hR)
  have H2 := Lib.hid (fun W => rright_any ⟨kind, ek, ea, ev, ma, n, lo, hi, rk, rn, rv⟩ W R hR)
  have H3 := Lib.hid (fun W => (event_any k a v W E hE).mono fun _ _ h => (⟨h.1, h.2 ▸ bel_alloc (Below.refl _ W) _⟩ : _ ∧ Below W.heap.size W _))
  have H4 := Lib.hid (fun W => (revent_any k a v W E hE).mono fun _ _ h => (⟨h.1, h.2 ▸ bel_alloc (Below.refl _ W) _⟩ : _ ∧ Below W.heap.size W _))
  clear hR hE
  go_enter Try.func19, Try.ntmps19
  go_wp2_with fail
  obtain ⟨g, hg⟩ : ∃ g, g = w.heap.size := ⟨_, rfl⟩
  obtain ⟨W, hW⟩ : ∃ W, W = (w.alloc (.cells #[.int .i64 kind, .string ek, .int .i64 ea, .int .i64 ev, .int .i64 ma, .int .i64 n, .int .i64 lo, .int .i64 hi, .string rk, .int .i64 rn, .int .i64 rv] 57)).alloc (.cells #[.string k, .int .i64 a, .int .i64 v] 51) := ⟨_, rfl⟩
  rw [← hW, ← hg]
  have hbW : Below w.heap.size w W := by rw [hW]; exact bel_alloc (bel_alloc (Below.refl _ _) _) _
  have hsz : W.heap.size = g + 2 := by rw [hW, hg]; simp
  have hS : W.cell? ⟨g, 0, none⟩ = some (.int .i64 kind) ∧ W.cell? ⟨g, 1, none⟩ = some (.string ek) ∧ W.cell? ⟨g, 2, none⟩ = some (.int .i64 ea) ∧ W.cell? ⟨g, 3, none⟩ = some (.int .i64 ev) ∧ W.cell? ⟨g, 4, none⟩ = some (.int .i64 ma) ∧ W.cell? ⟨g, 5, none⟩ = some (.int .i64 n) ∧ W.cell? ⟨g, 6, none⟩ = some (.int .i64 lo) ∧ W.cell? ⟨g, 7, none⟩ = some (.int .i64 hi) ∧ W.cell? ⟨g, 8, none⟩ = some (.string rk) ∧ W.cell? ⟨g, 9, none⟩ = some (.int .i64 rn) ∧ W.cell? ⟨g, 10, none⟩ = some (.int .i64 rv) ∧ W.cell? ⟨g + 1, 0, none⟩ = some (.string k) ∧ W.cell? ⟨g + 1, 1, none⟩ = some (.int .i64 a) ∧ W.cell? ⟨g + 1, 2, none⟩ = some (.int .i64 v) := by
    subst hW; subst hg
    have c1 := fun j => ((bel_alloc (Below.refl _ (w.alloc (.cells #[.int .i64 kind, .string ek, .int .i64 ea, .int .i64 ev, .int .i64 ma, .int .i64 n, .int .i64 lo, .int .i64 hi, .string rk, .int .i64 rn, .int .i64 rv] 57))) (.cells #[.string k, .int .i64 a, .int .i64 v] 51)).cell (p := ⟨w.heap.size, j, none⟩) (by simp)).trans (new_cellD w #[.int .i64 kind, .string ek, .int .i64 ea, .int .i64 ev, .int .i64 ma, .int .i64 n, .int .i64 lo, .int .i64 hi, .string rk, .int .i64 rn, .int .i64 rv] 57 j)
    have c2 := fun j => new_cellD (w.alloc (.cells #[.int .i64 kind, .string ek, .int .i64 ea, .int .i64 ev, .int .i64 ma, .int .i64 n, .int .i64 lo, .int .i64 hi, .string rk, .int .i64 rn, .int .i64 rv] 57)) #[.string k, .int .i64 a, .int .i64 v] 51 j
    have e : (w.alloc (.cells #[.int .i64 kind, .string ek, .int .i64 ea, .int .i64 ev, .int .i64 ma, .int .i64 n, .int .i64 lo, .int .i64 hi, .string rk, .int .i64 rn, .int .i64 rv] 57)).heap.size = w.heap.size + 1 := by simp
    rw [e] at c2
    exact ⟨c1 0, c1 1, c1 2, c1 3, c1 4, c1 5, c1 6, c1 7, c1 8, c1 9, c1 10, c2 0, c2 1, c2 2⟩
  have hS0 : Below W.heap.size W W ∧ W.cell? ⟨g, 0, none⟩ = some (.int .i64 kind) ∧ W.cell? ⟨g, 1, none⟩ = some (.string ek) ∧ W.cell? ⟨g, 2, none⟩ = some (.int .i64 ea) ∧ W.cell? ⟨g, 3, none⟩ = some (.int .i64 ev) ∧ W.cell? ⟨g, 4, none⟩ = some (.int .i64 ma) ∧ W.cell? ⟨g, 5, none⟩ = some (.int .i64 n) ∧ W.cell? ⟨g, 6, none⟩ = some (.int .i64 lo) ∧ W.cell? ⟨g, 7, none⟩ = some (.int .i64 hi) ∧ W.cell? ⟨g, 8, none⟩ = some (.string rk) ∧ W.cell? ⟨g, 9, none⟩ = some (.int .i64 rn) ∧ W.cell? ⟨g, 10, none⟩ = some (.int .i64 rv) ∧ W.cell? ⟨g + 1, 0, none⟩ = some (.string k) ∧ W.cell? ⟨g + 1, 1, none⟩ = some (.int .i64 a) ∧ W.cell? ⟨g + 1, 2, none⟩ = some (.int .i64 v) := ⟨Below.refl _ _, hS⟩
  have hp : g + 1 < W.heap.size := by omega
  clear hW hg hS
  go_region_held3 (fun w' => Below W.heap.size W w' ∧ w'.cell? ⟨g, 0, none⟩ = some (.int .i64 kind) ∧ w'.cell? ⟨g, 1, none⟩ = some (.string ek) ∧ w'.cell? ⟨g, 2, none⟩ = some (.int .i64 ea) ∧ w'.cell? ⟨g, 3, none⟩ = some (.int .i64 ev) ∧ w'.cell? ⟨g, 4, none⟩ = some (.int .i64 ma) ∧ w'.cell? ⟨g, 5, none⟩ = some (.int .i64 n) ∧ w'.cell? ⟨g, 6, none⟩ = some (.int .i64 lo) ∧ w'.cell? ⟨g, 7, none⟩ = some (.int .i64 hi) ∧ w'.cell? ⟨g, 8, none⟩ = some (.string rk) ∧ w'.cell? ⟨g, 9, none⟩ = some (.int .i64 rn) ∧ w'.cell? ⟨g, 10, none⟩ = some (.int .i64 rv) ∧ w'.cell? ⟨g + 1, 0, none⟩ = some (.string k) ∧ w'.cell? ⟨g + 1, 1, none⟩ = some (.int .i64 a) ∧ w'.cell? ⟨g + 1, 2, none⟩ = some (.int .i64 v)) (first | assumption | exact keepD _ _ _ _ _ _ _ _ _ _ _ _ _ _ (by assumption) | exact keepB _ _ _ _ _ _ _ _ _ _ _ _ _ _ (by assumption) (by assumption) (by assumption)) (first | (go_at_call 45; refine (alive_any _).mono ?_; rintro e w2 ⟨rfl, hb2⟩) | (go_at_call 46; refine (H1.out _).mono ?_; rintro e w2 ⟨rfl, hb2⟩) | (go_at_call 49; refine (H2.out _).mono ?_; rintro e w2 ⟨rfl, hb2⟩) | (go_at_call 50; refine (H3.out _).mono ?_; rintro e w2 ⟨rfl, hb2⟩) | (go_at_call 51; refine (H4.out _).mono ?_; rintro e w2 ⟨rfl, hb2⟩))
  go_wp2_with fail
  go_ret
  exact ⟨rfl, hbW.trans (Below.mono (by first | assumption | exact And.left (by assumption)) hbW.size)⟩
end Go.Proofs.Ytgpifbdjcoiilaa
