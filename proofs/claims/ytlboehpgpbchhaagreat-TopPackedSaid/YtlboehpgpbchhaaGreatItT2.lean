/-
  WALKS: the texts ItemW8, ItemW9, ItemW10, ItemW11, ItemW12, ItemW13, but for what speaks of functions that are not here (progonly.py).
-/
import Derived.Test.YtlboehpgpbchhaaGreatItT1
import Derived.RegionTactic
import Derived.Outline
import Derived.Deep.RegionHeld3
set_option linter.unusedVariables false
set_option linter.unusedSimpArgs false
namespace Go.Proofs.YtlboehpgpbchhaaGreat.Itm
open Go.RowKit
theorem cell_keep {w w1 w2 : World} {p : Addr} {v : Value} (hb : Below w1.heap.size w1 w2) (h0 : Below w.heap.size w w1) (hp : p.block < w.heap.size) (h : w1.cell? p = some v) : w2.cell? p = some v :=
  (hb.cell (p := p) (Nat.lt_of_lt_of_le hp h0.size)).trans h
/-- The writer at block g holds s' now; nothing else that stood has changed. -/
def Wrote (g : Nat) (s' : ByteArray) (w w' : World) : Prop :=
  w'.heap[g]? = some (.cells #[.string s'] 83 (0, 0)) ∧ (∀ k, k < w.heap.size → k ≠ g → w'.heap[k]? = w.heap[k]?) ∧ w'.os = w.os ∧ w'.tape = w.tape ∧ w'.output = w.output ∧ w.heap.size ≤ w'.heap.size
theorem wrote_of {g : Nat} {s s' : ByteArray} {w w1 : World} (hb : Below w.heap.size w w1) (hg : w.heap[g]? = some (.cells #[.string s] 83 (0, 0))) (hl : g < w.heap.size) : Wrote g s' w (w1.setCell ⟨g, 0, none⟩ (.string s')) := by
  have h1 : w1.heap[g]? = some (.cells #[.string s] 83 (0, 0)) := (hb.block g hl).trans hg
  refine ⟨?_, fun k hk hne => (Below.heap_setCell w1 ⟨g, 0, none⟩ _ k hne).trans (hb.block k hk), hb.os, hb.tape, hb.output, ?_⟩
  · simp [World.setCell, Array.getElem?_modify, h1]
  · have := hb.size
    simp [World.setCell]; exact this
theorem hlt {w : World} {g : Nat} {o : Obj} (h : w.heap[g]? = some o) : g < w.heap.size := (Array.getElem?_eq_some_iff.1 h).1
theorem bcellW {W w1 : World} (hb : Below W.heap.size W w1) : (∀ b o, b < W.heap.size → w1.cell? ⟨b, o, none⟩ = W.cell? ⟨b, o, none⟩) ∧ (∀ b o, b < W.heap.size → w1.frozen? ⟨b, o, none⟩ = W.frozen? ⟨b, o, none⟩) :=
  ⟨fun b o h => hb.cell (p := ⟨b, o, none⟩) h, fun b o h => hb.frozen (p := ⟨b, o, none⟩) h⟩
theorem dig10 {n : Nat} (h : n < 18446744073709551616) : (digS n).size ≤ 10 := by
  rw [digS_size, dig_length]; exact Nat.succ_le_succ (cnt_le h)
set_option maxHeartbeats 1000000 in
theorem number_any (g : Nat) (s d : ByteArray) (n : Int) (w : World) (hg : w.heap[g]? = some (.cells #[.string s] 83 (0, 0))) (hs : s.size ≤ 100000) (h0 : 0 ≤ n) (h1 : n ≤ 9223372036854775807) (hd : digS n.toNat = d) :
    Calls Tryz.prog 25 #[.pointer (some ⟨g, 0, none⟩), .int .i64 n] w fun e w' => e = .returned (.tuple #[]) ∧ Wrote g (s ++ d) w w' := by
  have Hg := Lib.hid hg
  have hl := hlt hg
  have hds : d.size ≤ 10 := by rw [← hd]; exact dig10 (n := n.toNat) (by omega)
  have HP := Lib.hid (fun W => put_yes n W h0 h1)
  rw [hd] at HP
  clear h0 h1 hd hg
  go_enter Tryz.func25, Tryz.ntmps25
  go_wp2_with fail
  refine (HP.out _).mono ?_
  rintro e w1 ⟨rfl, hb⟩
  have h2 : w1.heap[g]? = some (.cells #[.string s] 83 (0, 0)) := (hb.block g hl).trans Hg.out
  have hc : w1.cell? ⟨g, 0, none⟩ = some (.string s) := Lib.cell_of_heap h2 0
  have hf : w1.frozen? ⟨g, 0, none⟩ = false := by simp [World.frozen?, h2]
  clear h2
  go_wp2_with fail
  go_end0
  exact ⟨rfl, wrote_of hb Hg.out hl⟩
set_option maxHeartbeats 1000000 in
theorem text_w (g : Nat) (s k : ByteArray) (w : World) (hg : w.heap[g]? = some (.cells #[.string s] 83 (0, 0))) (hs : s.size ≤ 100000) (hk : k.size ≤ 4096) :
    Calls Tryz.prog 26 #[.pointer (some ⟨g, 0, none⟩), .string k] w fun e w' => e = .returned (.tuple #[]) ∧ Wrote g (s ++ (digS k.size ++ k)) w w' := by
  have Hg := Lib.hid hg
  have hl := hlt hg
  obtain ⟨d, hd⟩ : ∃ d, digS k.size ++ k = d := ⟨_, rfl⟩
  have hds : d.size ≤ 4106 := by
    have := dig10 (n := k.size) (by omega)
    rw [← hd, ByteArray.size_append]; omega
  have HP := Lib.hid (fun W => textS_any k W d 0 (by omega) (by unfold txtR; rw [if_neg (by omega), hd]))
  rw [hd]
  clear hd hg
  go_enter Tryz.func26, Tryz.ntmps26
  go_wp2_with fail
  refine (HP.out _).mono ?_
  rintro e w1 ⟨rfl, hb⟩
  have h2 : w1.heap[g]? = some (.cells #[.string s] 83 (0, 0)) := (hb.block g hl).trans Hg.out
  have hc : w1.cell? ⟨g, 0, none⟩ = some (.string s) := Lib.cell_of_heap h2 0
  have hf : w1.frozen? ⟨g, 0, none⟩ = false := by simp [World.frozen?, h2]
  clear h2
  go_wp2_with fail
  go_end0
  exact ⟨rfl, wrote_of hb Hg.out hl⟩
set_option maxHeartbeats 1000000 in
theorem signed_w (g : Nat) (s d : ByteArray) (n : Int) (w : World) (hg : w.heap[g]? = some (.cells #[.string s] 83 (0, 0))) (hs : s.size ≤ 100000) (h0 : -9223372036854775808 ≤ n) (h1 : n ≤ 9223372036854775807) (hd : digS (zz n) = d) :
    Calls Tryz.prog 27 #[.pointer (some ⟨g, 0, none⟩), .int .i64 n] w fun e w' => e = .returned (.tuple #[]) ∧ Wrote g (s ++ d) w w' := by
  have hl := hlt hg
  have hds : d.size ≤ 10 := by rw [← hd]; exact dig10 (zz_lt h0 h1)
  have HP := Lib.hid (fun W => signed_any n W h0 h1)
  rw [hd] at HP
  have hc : w.cell? ⟨g, 0, none⟩ = some (.string s) := Lib.cell_of_heap hg 0
  have hf : w.frozen? ⟨g, 0, none⟩ = false := by simp [World.frozen?, hg]
  have Hg := Lib.hid hg
  clear h0 h1 hd hg
  go_enter Tryz.func27, Tryz.ntmps27
  go_wp2_with fail
  go_region_with (first | (go_at_call 42; refine (HP.out _).mono ?_; rintro e w1 ⟨rfl, hb⟩; have hc2 := ((bcellW hb).1 g 0 hl).trans hc; have hf2 := ((bcellW hb).2 g 0 hl).trans hf; clear hc hf))
  all_goals go_wp2_with fail
  all_goals go_end0
  all_goals exact ⟨rfl, wrote_of ⟨hb.os, hb.tape, hb.output, hb.size, hb.block⟩ Hg.out hl⟩
theorem Wrote.below {w0 w w' : World} {g : Nat} {s : ByteArray} (hw : Wrote g s w w') (h : Below w0.heap.size w0 w) (hg : w0.heap.size ≤ g) : Below w0.heap.size w0 w' :=
  ⟨hw.2.2.1.trans h.os, hw.2.2.2.1.trans h.tape, hw.2.2.2.2.1.trans h.output, Nat.le_trans h.size hw.2.2.2.2.2, fun k hk => (hw.2.1 k (Nat.lt_of_lt_of_le hk h.size) (by omega)).trans (h.block k hk)⟩
theorem Wrote.keep {w w' : World} {g k : Nat} {s : ByteArray} {o : Obj} (hw : Wrote g s w w') (hne : k ≠ g) (h : w.heap[k]? = some o) : w'.heap[k]? = some o := (hw.2.1 k (hlt h) hne).trans h
theorem eleven {W : World} {g : Nat} {c0 c1 c2 c3 c4 c5 c6 c7 c8 c9 c10 : Value} {T : TypeId} {f : Nat × Nat} (h : W.heap[g]? = some (.cells #[c0, c1, c2, c3, c4, c5, c6, c7, c8, c9, c10] T f)) :
    W.cell? ⟨g, 0, none⟩ = some c0 ∧ W.cell? ⟨g, 1, none⟩ = some c1 ∧ W.cell? ⟨g, 2, none⟩ = some c2 ∧ W.cell? ⟨g, 3, none⟩ = some c3 ∧ W.cell? ⟨g, 4, none⟩ = some c4 ∧ W.cell? ⟨g, 5, none⟩ = some c5 ∧ W.cell? ⟨g, 6, none⟩ = some c6 ∧ W.cell? ⟨g, 7, none⟩ = some c7 ∧ W.cell? ⟨g, 8, none⟩ = some c8 ∧ W.cell? ⟨g, 9, none⟩ = some c9 ∧ W.cell? ⟨g, 10, none⟩ = some c10 :=
  ⟨Lib.cell_of_heap h 0, Lib.cell_of_heap h 1, Lib.cell_of_heap h 2, Lib.cell_of_heap h 3, Lib.cell_of_heap h 4, Lib.cell_of_heap h 5, Lib.cell_of_heap h 6, Lib.cell_of_heap h 7, Lib.cell_of_heap h 8, Lib.cell_of_heap h 9, Lib.cell_of_heap h 10⟩
set_option maxHeartbeats 4000000 in
set_option maxRecDepth 100000 in
theorem put_item3 (kind : Int) (ek : ByteArray) (ea ev ma n lo hi : Int) (rk : ByteArray) (rn rv : Int) (w : World) (h : kind = 3) (hR : rightI ⟨3, ek, ea, ev, ma, n, lo, hi, rk, rn, rv⟩ = true)
    (S1 : ByteArray) (hS1 : (⟨#[]⟩ : ByteArray) ++ digS (3 : Int).toNat = S1) (_z1 : S1.size ≤ 100000) :
    Calls Tryz.prog 7 #[.agg #[.int .i64 kind, .string ek, .int .i64 ea, .int .i64 ev, .int .i64 ma, .int .i64 n, .int .i64 lo, .int .i64 hi, .string rk, .int .i64 rn, .int .i64 rv]] w fun e w' => e = .returned (.tuple #[.string S1, .int .i64 0]) ∧ Below w.heap.size w w' := by
  have HS1 := Lib.hid hS1
  clear hS1
  have HC0 := Lib.hid (fun w (g : Nat) (hg : w.heap[g]? = some (.cells #[.string ⟨#[]⟩] 83 (0, 0))) => number_any g ⟨#[]⟩ _ 3 w hg (by decide) (by decide) (by decide) rfl)
  clear _z1 
  subst h
  have HR := Lib.hid (fun W => right_any ⟨3, ek, ea, ev, ma, n, lo, hi, rk, rn, rv⟩ W true hR)
  clear hR
  go_enter Tryz.func7, Tryz.ntmps7
  go_wp2_with fail
  refine (HR.out _).mono ?_
  rintro e w1 ⟨rfl, hb⟩
  have K1 : w1.heap[w.heap.size]? = some (.cells #[.int .i64 3, .string ek, .int .i64 ea, .int .i64 ev, .int .i64 ma, .int .i64 n, .int .i64 lo, .int .i64 hi, .string rk, .int .i64 rn, .int .i64 rv] 43 (0, 0)) := (hb.block w.heap.size (by simp)).trans (heap_alloc_new w _)
  have B1 : Below w.heap.size w w1 := (bel_alloc (Below.refl _ _) _).trans (hb.mono (bel_alloc (Below.refl _ _) _).size)
  have hgl : w.heap.size < w1.heap.size := by have := hb.size; simp at this; omega
  clear hb
  obtain ⟨c0, c1, c2, c3, c4, c5, c6, c7, c8, c9, c10⟩ := eleven K1
  have HK1 := Lib.hid K1
  have HB1 := Lib.hid B1
  clear K1 B1
  go_wp2_with fail
  clear c0 c1 c2 c3 c4 c5 c6 c7 c8 c9 c10
  obtain ⟨w2, hw2⟩ : ∃ w2, w2 = w1.alloc (.cells #[.string ⟨#[]⟩] 83) := ⟨_, rfl⟩
  have HW2 : Hid (w2.heap[w1.heap.size]? = some (.cells #[.string ⟨#[]⟩] 83 (0, 0))) := Lib.hid (by rw [hw2]; exact heap_alloc_new _ _)
  have HK2 : Hid (w2.heap[w.heap.size]? = some (.cells #[.int .i64 3, .string ek, .int .i64 ea, .int .i64 ev, .int .i64 ma, .int .i64 n, .int .i64 lo, .int .i64 hi, .string rk, .int .i64 rn, .int .i64 rv] 43 (0, 0))) := Lib.hid (by rw [hw2, Below.heap_alloc _ _ _ hgl]; exact HK1.out)
  have HB2 : Hid (Below w.heap.size w w2) := Lib.hid (by rw [hw2]; exact bel_alloc HB1.out _)
  rw [← hw2]
  clear hw2
  obtain ⟨g2, hg2⟩ : ∃ g2, g2 = w1.heap.size := ⟨_, rfl⟩
  rw [← hg2] at HW2 ⊢
  have hne : w.heap.size ≠ g2 := by omega
  have hle : w.heap.size ≤ g2 := by omega
  clear hgl hg2
  refine (HC0.out _ g2 HW2.out).mono ?_
  rintro e w3 ⟨rfl, hw⟩
  rw [HS1.out] at hw
  have HW3 := Lib.hid hw.1
  have HK3 := Lib.hid (hw.keep hne HK2.out)
  have HB3 := Lib.hid (hw.below HB2.out hle)
  obtain ⟨c0, c1, c2, c3, c4, c5, c6, c7, c8, c9, c10⟩ := eleven HK3.out
  have cw : w3.cell? ⟨g2, 0, none⟩ = some (.string S1) := Lib.cell_of_heap HW3.out 0
  clear hw HW2 HK2 HB2
  go_wp2_with fail
  clear c0 c1 c2 c3 c4 c5 c6 c7 c8 c9 c10 cw
  go_ret2
  exact ⟨rfl, HB3.out⟩
set_option maxHeartbeats 4000000 in
set_option maxRecDepth 100000 in
theorem put_item2 (kind : Int) (ek : ByteArray) (ea ev ma n lo hi : Int) (rk : ByteArray) (rn rv : Int) (w : World) (h : kind = 2) (hR : rightI ⟨2, ek, ea, ev, ma, n, lo, hi, rk, rn, rv⟩ = true)
    (S1 : ByteArray) (hS1 : (⟨#[]⟩ : ByteArray) ++ digS (2 : Int).toNat = S1) (z1 : S1.size ≤ 100000) (S2 : ByteArray) (hS2 : S1 ++ digS (ma : Int).toNat = S2) (_z2 : S2.size ≤ 100000) (p1_0 : 0 ≤ ma) (p1_1 : ma ≤ 1099511627776) :
    Calls Tryz.prog 7 #[.agg #[.int .i64 kind, .string ek, .int .i64 ea, .int .i64 ev, .int .i64 ma, .int .i64 n, .int .i64 lo, .int .i64 hi, .string rk, .int .i64 rn, .int .i64 rv]] w fun e w' => e = .returned (.tuple #[.string S2, .int .i64 0]) ∧ Below w.heap.size w w' := by
  have HS1 := Lib.hid hS1
  clear hS1
  have HS2 := Lib.hid hS2
  clear hS2
  have HC0 := Lib.hid (fun w (g : Nat) (hg : w.heap[g]? = some (.cells #[.string ⟨#[]⟩] 83 (0, 0))) => number_any g ⟨#[]⟩ _ 2 w hg (by decide) (by decide) (by decide) rfl)
  have HC1 := Lib.hid (fun w (g : Nat) (hg : w.heap[g]? = some (.cells #[.string S1] 83 (0, 0))) => number_any g S1 _ ma w hg z1 p1_0 (Int.le_trans p1_1 (by decide)) rfl)
  clear z1 _z2 p1_0 p1_1
  subst h
  have HR := Lib.hid (fun W => right_any ⟨2, ek, ea, ev, ma, n, lo, hi, rk, rn, rv⟩ W true hR)
  clear hR
  go_enter Tryz.func7, Tryz.ntmps7
  go_wp2_with fail
  refine (HR.out _).mono ?_
  rintro e w1 ⟨rfl, hb⟩
  have K1 : w1.heap[w.heap.size]? = some (.cells #[.int .i64 2, .string ek, .int .i64 ea, .int .i64 ev, .int .i64 ma, .int .i64 n, .int .i64 lo, .int .i64 hi, .string rk, .int .i64 rn, .int .i64 rv] 43 (0, 0)) := (hb.block w.heap.size (by simp)).trans (heap_alloc_new w _)
  have B1 : Below w.heap.size w w1 := (bel_alloc (Below.refl _ _) _).trans (hb.mono (bel_alloc (Below.refl _ _) _).size)
  have hgl : w.heap.size < w1.heap.size := by have := hb.size; simp at this; omega
  clear hb
  obtain ⟨c0, c1, c2, c3, c4, c5, c6, c7, c8, c9, c10⟩ := eleven K1
  have HK1 := Lib.hid K1
  have HB1 := Lib.hid B1
  clear K1 B1
  go_wp2_with fail
  clear c0 c1 c2 c3 c4 c5 c6 c7 c8 c9 c10
  obtain ⟨w2, hw2⟩ : ∃ w2, w2 = w1.alloc (.cells #[.string ⟨#[]⟩] 83) := ⟨_, rfl⟩
  have HW2 : Hid (w2.heap[w1.heap.size]? = some (.cells #[.string ⟨#[]⟩] 83 (0, 0))) := Lib.hid (by rw [hw2]; exact heap_alloc_new _ _)
  have HK2 : Hid (w2.heap[w.heap.size]? = some (.cells #[.int .i64 2, .string ek, .int .i64 ea, .int .i64 ev, .int .i64 ma, .int .i64 n, .int .i64 lo, .int .i64 hi, .string rk, .int .i64 rn, .int .i64 rv] 43 (0, 0))) := Lib.hid (by rw [hw2, Below.heap_alloc _ _ _ hgl]; exact HK1.out)
  have HB2 : Hid (Below w.heap.size w w2) := Lib.hid (by rw [hw2]; exact bel_alloc HB1.out _)
  rw [← hw2]
  clear hw2
  obtain ⟨g2, hg2⟩ : ∃ g2, g2 = w1.heap.size := ⟨_, rfl⟩
  rw [← hg2] at HW2 ⊢
  have hne : w.heap.size ≠ g2 := by omega
  have hle : w.heap.size ≤ g2 := by omega
  clear hgl hg2
  refine (HC0.out _ g2 HW2.out).mono ?_
  rintro e w3 ⟨rfl, hw⟩
  rw [HS1.out] at hw
  have HW3 := Lib.hid hw.1
  have HK3 := Lib.hid (hw.keep hne HK2.out)
  have HB3 := Lib.hid (hw.below HB2.out hle)
  obtain ⟨c0, c1, c2, c3, c4, c5, c6, c7, c8, c9, c10⟩ := eleven HK3.out
  have cw : w3.cell? ⟨g2, 0, none⟩ = some (.string S1) := Lib.cell_of_heap HW3.out 0
  clear hw HW2 HK2 HB2
  go_wp2_with fail
  clear c0 c1 c2 c3 c4 c5 c6 c7 c8 c9 c10 cw
  refine (HC1.out _ g2 HW3.out).mono ?_
  rintro e w4 ⟨rfl, hw⟩
  rw [HS2.out] at hw
  have HW4 := Lib.hid hw.1
  have HK4 := Lib.hid (hw.keep hne HK3.out)
  have HB4 := Lib.hid (hw.below HB3.out hle)
  obtain ⟨c0, c1, c2, c3, c4, c5, c6, c7, c8, c9, c10⟩ := eleven HK4.out
  have cw : w4.cell? ⟨g2, 0, none⟩ = some (.string S2) := Lib.cell_of_heap HW4.out 0
  clear hw HW3 HK3 HB3
  go_wp2_with fail
  clear c0 c1 c2 c3 c4 c5 c6 c7 c8 c9 c10 cw
  go_ret2
  exact ⟨rfl, HB4.out⟩
set_option maxHeartbeats 4000000 in
set_option maxRecDepth 100000 in
theorem put_item4 (kind : Int) (ek : ByteArray) (ea ev ma n lo hi : Int) (rk : ByteArray) (rn rv : Int) (w : World) (h : kind = 4) (hR : rightI ⟨4, ek, ea, ev, ma, n, lo, hi, rk, rn, rv⟩ = true)
    (S1 : ByteArray) (hS1 : (⟨#[]⟩ : ByteArray) ++ digS (4 : Int).toNat = S1) (z1 : S1.size ≤ 100000) (S2 : ByteArray) (hS2 : S1 ++ digS (n : Int).toNat = S2) (_z2 : S2.size ≤ 100000) (p1_0 : 0 ≤ n) (p1_1 : n ≤ 1099511627776) :
    Calls Tryz.prog 7 #[.agg #[.int .i64 kind, .string ek, .int .i64 ea, .int .i64 ev, .int .i64 ma, .int .i64 n, .int .i64 lo, .int .i64 hi, .string rk, .int .i64 rn, .int .i64 rv]] w fun e w' => e = .returned (.tuple #[.string S2, .int .i64 0]) ∧ Below w.heap.size w w' := by
  have HS1 := Lib.hid hS1
  clear hS1
  have HS2 := Lib.hid hS2
  clear hS2
  have HC0 := Lib.hid (fun w (g : Nat) (hg : w.heap[g]? = some (.cells #[.string ⟨#[]⟩] 83 (0, 0))) => number_any g ⟨#[]⟩ _ 4 w hg (by decide) (by decide) (by decide) rfl)
  have HC1 := Lib.hid (fun w (g : Nat) (hg : w.heap[g]? = some (.cells #[.string S1] 83 (0, 0))) => number_any g S1 _ n w hg z1 p1_0 (Int.le_trans p1_1 (by decide)) rfl)
  clear z1 _z2 p1_0 p1_1
  subst h
  have HR := Lib.hid (fun W => right_any ⟨4, ek, ea, ev, ma, n, lo, hi, rk, rn, rv⟩ W true hR)
  clear hR
  go_enter Tryz.func7, Tryz.ntmps7
  go_wp2_with fail
  refine (HR.out _).mono ?_
  rintro e w1 ⟨rfl, hb⟩
  have K1 : w1.heap[w.heap.size]? = some (.cells #[.int .i64 4, .string ek, .int .i64 ea, .int .i64 ev, .int .i64 ma, .int .i64 n, .int .i64 lo, .int .i64 hi, .string rk, .int .i64 rn, .int .i64 rv] 43 (0, 0)) := (hb.block w.heap.size (by simp)).trans (heap_alloc_new w _)
  have B1 : Below w.heap.size w w1 := (bel_alloc (Below.refl _ _) _).trans (hb.mono (bel_alloc (Below.refl _ _) _).size)
  have hgl : w.heap.size < w1.heap.size := by have := hb.size; simp at this; omega
  clear hb
  obtain ⟨c0, c1, c2, c3, c4, c5, c6, c7, c8, c9, c10⟩ := eleven K1
  have HK1 := Lib.hid K1
  have HB1 := Lib.hid B1
  clear K1 B1
  go_wp2_with fail
  clear c0 c1 c2 c3 c4 c5 c6 c7 c8 c9 c10
  obtain ⟨w2, hw2⟩ : ∃ w2, w2 = w1.alloc (.cells #[.string ⟨#[]⟩] 83) := ⟨_, rfl⟩
  have HW2 : Hid (w2.heap[w1.heap.size]? = some (.cells #[.string ⟨#[]⟩] 83 (0, 0))) := Lib.hid (by rw [hw2]; exact heap_alloc_new _ _)
  have HK2 : Hid (w2.heap[w.heap.size]? = some (.cells #[.int .i64 4, .string ek, .int .i64 ea, .int .i64 ev, .int .i64 ma, .int .i64 n, .int .i64 lo, .int .i64 hi, .string rk, .int .i64 rn, .int .i64 rv] 43 (0, 0))) := Lib.hid (by rw [hw2, Below.heap_alloc _ _ _ hgl]; exact HK1.out)
  have HB2 : Hid (Below w.heap.size w w2) := Lib.hid (by rw [hw2]; exact bel_alloc HB1.out _)
  rw [← hw2]
  clear hw2
  obtain ⟨g2, hg2⟩ : ∃ g2, g2 = w1.heap.size := ⟨_, rfl⟩
  rw [← hg2] at HW2 ⊢
  have hne : w.heap.size ≠ g2 := by omega
  have hle : w.heap.size ≤ g2 := by omega
  clear hgl hg2
  refine (HC0.out _ g2 HW2.out).mono ?_
  rintro e w3 ⟨rfl, hw⟩
  rw [HS1.out] at hw
  have HW3 := Lib.hid hw.1
  have HK3 := Lib.hid (hw.keep hne HK2.out)
  have HB3 := Lib.hid (hw.below HB2.out hle)
  obtain ⟨c0, c1, c2, c3, c4, c5, c6, c7, c8, c9, c10⟩ := eleven HK3.out
  have cw : w3.cell? ⟨g2, 0, none⟩ = some (.string S1) := Lib.cell_of_heap HW3.out 0
  clear hw HW2 HK2 HB2
  go_wp2_with fail
  clear c0 c1 c2 c3 c4 c5 c6 c7 c8 c9 c10 cw
  refine (HC1.out _ g2 HW3.out).mono ?_
  rintro e w4 ⟨rfl, hw⟩
  rw [HS2.out] at hw
  have HW4 := Lib.hid hw.1
  have HK4 := Lib.hid (hw.keep hne HK3.out)
  have HB4 := Lib.hid (hw.below HB3.out hle)
  obtain ⟨c0, c1, c2, c3, c4, c5, c6, c7, c8, c9, c10⟩ := eleven HK4.out
  have cw : w4.cell? ⟨g2, 0, none⟩ = some (.string S2) := Lib.cell_of_heap HW4.out 0
  clear hw HW3 HK3 HB3
  go_wp2_with fail
  clear c0 c1 c2 c3 c4 c5 c6 c7 c8 c9 c10 cw
  go_ret2
  exact ⟨rfl, HB4.out⟩
set_option maxHeartbeats 4000000 in
set_option maxRecDepth 100000 in
theorem put_item1 (kind : Int) (ek : ByteArray) (ea ev ma n lo hi : Int) (rk : ByteArray) (rn rv : Int) (w : World) (h : kind = 1) (hR : rightI ⟨1, ek, ea, ev, ma, n, lo, hi, rk, rn, rv⟩ = true)
    (S1 : ByteArray) (hS1 : (⟨#[]⟩ : ByteArray) ++ digS (1 : Int).toNat = S1) (z1 : S1.size ≤ 100000) (S2 : ByteArray) (hS2 : S1 ++ (digS ek.size ++ ek) = S2) (z2 : S2.size ≤ 100000) (p1_0 : ek.size ≤ 16) (S3 : ByteArray) (hS3 : S2 ++ digS (ea : Int).toNat = S3) (z3 : S3.size ≤ 100000) (p2_0 : 0 ≤ ea) (p2_1 : ea ≤ 1099511627776) (S4 : ByteArray) (hS4 : S3 ++ digS (zz ev) = S4) (_z4 : S4.size ≤ 100000) (p3_0 : -9223372036854775808 ≤ ev) (p3_1 : ev ≤ 9223372036854775807) :
    Calls Tryz.prog 7 #[.agg #[.int .i64 kind, .string ek, .int .i64 ea, .int .i64 ev, .int .i64 ma, .int .i64 n, .int .i64 lo, .int .i64 hi, .string rk, .int .i64 rn, .int .i64 rv]] w fun e w' => e = .returned (.tuple #[.string S4, .int .i64 0]) ∧ Below w.heap.size w w' := by
  have HS1 := Lib.hid hS1
  clear hS1
  have HS2 := Lib.hid hS2
  clear hS2
  have HS3 := Lib.hid hS3
  clear hS3
  have HS4 := Lib.hid hS4
  clear hS4
  have HC0 := Lib.hid (fun w (g : Nat) (hg : w.heap[g]? = some (.cells #[.string ⟨#[]⟩] 83 (0, 0))) => number_any g ⟨#[]⟩ _ 1 w hg (by decide) (by decide) (by decide) rfl)
  have HC1 := Lib.hid (fun w (g : Nat) (hg : w.heap[g]? = some (.cells #[.string S1] 83 (0, 0))) => text_w g S1 ek w hg z1 (Nat.le_trans p1_0 (by decide)))
  have HC2 := Lib.hid (fun w (g : Nat) (hg : w.heap[g]? = some (.cells #[.string S2] 83 (0, 0))) => number_any g S2 _ ea w hg z2 p2_0 (Int.le_trans p2_1 (by decide)) rfl)
  have HC3 := Lib.hid (fun w (g : Nat) (hg : w.heap[g]? = some (.cells #[.string S3] 83 (0, 0))) => signed_w g S3 _ ev w hg z3 p3_0 p3_1 rfl)
  clear z1 z2 z3 _z4 p1_0 p2_0 p2_1 p3_0 p3_1
  subst h
  have HR := Lib.hid (fun W => right_any ⟨1, ek, ea, ev, ma, n, lo, hi, rk, rn, rv⟩ W true hR)
  clear hR
  go_enter Tryz.func7, Tryz.ntmps7
  go_wp2_with fail
  refine (HR.out _).mono ?_
  rintro e w1 ⟨rfl, hb⟩
  have K1 : w1.heap[w.heap.size]? = some (.cells #[.int .i64 1, .string ek, .int .i64 ea, .int .i64 ev, .int .i64 ma, .int .i64 n, .int .i64 lo, .int .i64 hi, .string rk, .int .i64 rn, .int .i64 rv] 43 (0, 0)) := (hb.block w.heap.size (by simp)).trans (heap_alloc_new w _)
  have B1 : Below w.heap.size w w1 := (bel_alloc (Below.refl _ _) _).trans (hb.mono (bel_alloc (Below.refl _ _) _).size)
  have hgl : w.heap.size < w1.heap.size := by have := hb.size; simp at this; omega
  clear hb
  obtain ⟨c0, c1, c2, c3, c4, c5, c6, c7, c8, c9, c10⟩ := eleven K1
  have HK1 := Lib.hid K1
  have HB1 := Lib.hid B1
  clear K1 B1
  go_wp2_with fail
  clear c0 c1 c2 c3 c4 c5 c6 c7 c8 c9 c10
  obtain ⟨w2, hw2⟩ : ∃ w2, w2 = w1.alloc (.cells #[.string ⟨#[]⟩] 83) := ⟨_, rfl⟩
  have HW2 : Hid (w2.heap[w1.heap.size]? = some (.cells #[.string ⟨#[]⟩] 83 (0, 0))) := Lib.hid (by rw [hw2]; exact heap_alloc_new _ _)
  have HK2 : Hid (w2.heap[w.heap.size]? = some (.cells #[.int .i64 1, .string ek, .int .i64 ea, .int .i64 ev, .int .i64 ma, .int .i64 n, .int .i64 lo, .int .i64 hi, .string rk, .int .i64 rn, .int .i64 rv] 43 (0, 0))) := Lib.hid (by rw [hw2, Below.heap_alloc _ _ _ hgl]; exact HK1.out)
  have HB2 : Hid (Below w.heap.size w w2) := Lib.hid (by rw [hw2]; exact bel_alloc HB1.out _)
  rw [← hw2]
  clear hw2
  obtain ⟨g2, hg2⟩ : ∃ g2, g2 = w1.heap.size := ⟨_, rfl⟩
  rw [← hg2] at HW2 ⊢
  have hne : w.heap.size ≠ g2 := by omega
  have hle : w.heap.size ≤ g2 := by omega
  clear hgl hg2
  refine (HC0.out _ g2 HW2.out).mono ?_
  rintro e w3 ⟨rfl, hw⟩
  rw [HS1.out] at hw
  have HW3 := Lib.hid hw.1
  have HK3 := Lib.hid (hw.keep hne HK2.out)
  have HB3 := Lib.hid (hw.below HB2.out hle)
  obtain ⟨c0, c1, c2, c3, c4, c5, c6, c7, c8, c9, c10⟩ := eleven HK3.out
  have cw : w3.cell? ⟨g2, 0, none⟩ = some (.string S1) := Lib.cell_of_heap HW3.out 0
  clear hw HW2 HK2 HB2
  go_wp2_with fail
  clear c0 c1 c2 c3 c4 c5 c6 c7 c8 c9 c10 cw
  refine (HC1.out _ g2 HW3.out).mono ?_
  rintro e w4 ⟨rfl, hw⟩
  rw [HS2.out] at hw
  have HW4 := Lib.hid hw.1
  have HK4 := Lib.hid (hw.keep hne HK3.out)
  have HB4 := Lib.hid (hw.below HB3.out hle)
  obtain ⟨c0, c1, c2, c3, c4, c5, c6, c7, c8, c9, c10⟩ := eleven HK4.out
  have cw : w4.cell? ⟨g2, 0, none⟩ = some (.string S2) := Lib.cell_of_heap HW4.out 0
  clear hw HW3 HK3 HB3
  go_wp2_with fail
  clear c0 c1 c2 c3 c4 c5 c6 c7 c8 c9 c10 cw
  refine (HC2.out _ g2 HW4.out).mono ?_
  rintro e w5 ⟨rfl, hw⟩
  rw [HS3.out] at hw
  have HW5 := Lib.hid hw.1
  have HK5 := Lib.hid (hw.keep hne HK4.out)
  have HB5 := Lib.hid (hw.below HB4.out hle)
  obtain ⟨c0, c1, c2, c3, c4, c5, c6, c7, c8, c9, c10⟩ := eleven HK5.out
  have cw : w5.cell? ⟨g2, 0, none⟩ = some (.string S3) := Lib.cell_of_heap HW5.out 0
  clear hw HW4 HK4 HB4
  go_wp2_with fail
  clear c0 c1 c2 c3 c4 c5 c6 c7 c8 c9 c10 cw
  refine (HC3.out _ g2 HW5.out).mono ?_
  rintro e w6 ⟨rfl, hw⟩
  rw [HS4.out] at hw
  have HW6 := Lib.hid hw.1
  have HK6 := Lib.hid (hw.keep hne HK5.out)
  have HB6 := Lib.hid (hw.below HB5.out hle)
  obtain ⟨c0, c1, c2, c3, c4, c5, c6, c7, c8, c9, c10⟩ := eleven HK6.out
  have cw : w6.cell? ⟨g2, 0, none⟩ = some (.string S4) := Lib.cell_of_heap HW6.out 0
  clear hw HW5 HK5 HB5
  go_wp2_with fail
  clear c0 c1 c2 c3 c4 c5 c6 c7 c8 c9 c10 cw
  go_ret2
  exact ⟨rfl, HB6.out⟩
theorem five {W : World} {g : Nat} {c0 c1 c2 c3 c4 : Value} {T : TypeId} {f : Nat × Nat} (h : W.heap[g]? = some (.cells #[c0, c1, c2, c3, c4] T f)) :
    W.cell? ⟨g, 0, none⟩ = some c0 ∧ W.cell? ⟨g, 1, none⟩ = some c1 ∧ W.cell? ⟨g, 2, none⟩ = some c2 ∧ W.cell? ⟨g, 3, none⟩ = some c3 ∧ W.cell? ⟨g, 4, none⟩ = some c4 :=
  ⟨Lib.cell_of_heap h 0, Lib.cell_of_heap h 1, Lib.cell_of_heap h 2, Lib.cell_of_heap h 3, Lib.cell_of_heap h 4⟩
theorem three {W : World} {g : Nat} {c0 c1 c2 : Value} {T : TypeId} {f : Nat × Nat} (h : W.heap[g]? = some (.cells #[c0, c1, c2] T f)) :
    W.cell? ⟨g, 0, none⟩ = some c0 ∧ W.cell? ⟨g, 1, none⟩ = some c1 ∧ W.cell? ⟨g, 2, none⟩ = some c2 :=
  ⟨Lib.cell_of_heap h 0, Lib.cell_of_heap h 1, Lib.cell_of_heap h 2⟩
set_option maxHeartbeats 4000000 in
set_option maxRecDepth 100000 in
theorem put_item5 (kind : Int) (ek : ByteArray) (ea ev ma n lo hi : Int) (rk : ByteArray) (rn rv : Int) (w : World) (h : kind = 5) (hR : rightI ⟨5, ek, ea, ev, ma, n, lo, hi, rk, rn, rv⟩ = true)
    (S1 : ByteArray) (hS1 : (⟨#[]⟩ : ByteArray) ++ digS (5 : Int).toNat = S1) (z1 : S1.size ≤ 100000) (S2 : ByteArray) (hS2 : S1 ++ (digS rk.size ++ rk) = S2) (z2 : S2.size ≤ 100000) (S3 : ByteArray) (hS3 : S2 ++ digS (lo : Int).toNat = S3) (z3 : S3.size ≤ 100000) (S4 : ByteArray) (hS4 : S3 ++ digS (hi : Int).toNat = S4) (z4 : S4.size ≤ 100000) (S5 : ByteArray) (hS5 : S4 ++ digS (rn : Int).toNat = S5) (z5 : S5.size ≤ 100000) (S6 : ByteArray) (hS6 : S5 ++ digS (zz rv) = S6) (_z6 : S6.size ≤ 100000) (p1 : rk.size ≤ 16) (plo0 : 0 ≤ lo) (plo1 : lo ≤ 1099511627776) (phi0 : 0 ≤ hi) (phi1 : hi ≤ 1099511627776) (prn0 : 0 ≤ rn) (prn1 : rn ≤ 1099511627776) (prv0 : -9223372036854775808 ≤ rv) (prv1 : rv ≤ 9223372036854775807) :
    Calls Tryz.prog 7 #[.agg #[.int .i64 kind, .string ek, .int .i64 ea, .int .i64 ev, .int .i64 ma, .int .i64 n, .int .i64 lo, .int .i64 hi, .string rk, .int .i64 rn, .int .i64 rv]] w fun e w' => e = .returned (.tuple #[.string S6, .int .i64 0]) ∧ Below w.heap.size w w' := by
  have HS1 := Lib.hid hS1
  clear hS1
  have HS2 := Lib.hid hS2
  clear hS2
  have HS3 := Lib.hid hS3
  clear hS3
  have HS4 := Lib.hid hS4
  clear hS4
  have HS5 := Lib.hid hS5
  clear hS5
  have HS6 := Lib.hid hS6
  clear hS6
  have HC0 := Lib.hid (fun w (g : Nat) (hg : w.heap[g]? = some (.cells #[.string ⟨#[]⟩] 83 (0, 0))) => number_any g ⟨#[]⟩ _ 5 w hg (by decide) (by decide) (by decide) rfl)
  have HC1 := Lib.hid (fun w (g : Nat) (hg : w.heap[g]? = some (.cells #[.string S1] 83 (0, 0))) => text_w g S1 rk w hg z1 (Nat.le_trans p1 (by decide)))
  have HC2 := Lib.hid (fun w (g : Nat) (hg : w.heap[g]? = some (.cells #[.string S2] 83 (0, 0))) => number_any g S2 _ lo w hg z2 plo0 (Int.le_trans plo1 (by decide)) rfl)
  have HC3 := Lib.hid (fun w (g : Nat) (hg : w.heap[g]? = some (.cells #[.string S3] 83 (0, 0))) => number_any g S3 _ hi w hg z3 phi0 (Int.le_trans phi1 (by decide)) rfl)
  have HC4 := Lib.hid (fun w (g : Nat) (hg : w.heap[g]? = some (.cells #[.string S4] 83 (0, 0))) => number_any g S4 _ rn w hg z4 prn0 (Int.le_trans prn1 (by decide)) rfl)
  have HC5 := Lib.hid (fun w (g : Nat) (hg : w.heap[g]? = some (.cells #[.string S5] 83 (0, 0))) => signed_w g S5 _ rv w hg z5 prv0 prv1 rfl)
  clear z1 z2 z3 z4 z5 _z6 p1 plo0 plo1 phi0 phi1 prn0 prn1 prv0 prv1
  subst h
  have HR := Lib.hid (fun W => right_any ⟨5, ek, ea, ev, ma, n, lo, hi, rk, rn, rv⟩ W true hR)
  clear hR
  go_enter Tryz.func7, Tryz.ntmps7
  go_wp2_with fail
  refine (HR.out _).mono ?_
  rintro e w1 ⟨rfl, hb⟩
  have K1 : w1.heap[w.heap.size]? = some (.cells #[.int .i64 5, .string ek, .int .i64 ea, .int .i64 ev, .int .i64 ma, .int .i64 n, .int .i64 lo, .int .i64 hi, .string rk, .int .i64 rn, .int .i64 rv] 43 (0, 0)) := (hb.block w.heap.size (by simp)).trans (heap_alloc_new w _)
  have B1 : Below w.heap.size w w1 := (bel_alloc (Below.refl _ _) _).trans (hb.mono (bel_alloc (Below.refl _ _) _).size)
  have hgl : w.heap.size < w1.heap.size := by have := hb.size; simp at this; omega
  clear hb
  obtain ⟨c0, c1, c2, c3, c4, c5, c6, c7, c8, c9, c10⟩ := eleven K1
  have HK1 := Lib.hid K1
  have HB1 := Lib.hid B1
  clear K1 B1
  go_wp2_with fail
  clear c0 c1 c2 c3 c4 c5 c6 c7 c8 c9 c10
  obtain ⟨w2, hw2⟩ : ∃ w2, w2 = w1.alloc (.cells #[.string ⟨#[]⟩] 83) := ⟨_, rfl⟩
  have HW2 : Hid (w2.heap[w1.heap.size]? = some (.cells #[.string ⟨#[]⟩] 83 (0, 0))) := Lib.hid (by rw [hw2]; exact heap_alloc_new _ _)
  have HK2 : Hid (w2.heap[w.heap.size]? = some (.cells #[.int .i64 5, .string ek, .int .i64 ea, .int .i64 ev, .int .i64 ma, .int .i64 n, .int .i64 lo, .int .i64 hi, .string rk, .int .i64 rn, .int .i64 rv] 43 (0, 0))) := Lib.hid (by rw [hw2, Below.heap_alloc _ _ _ hgl]; exact HK1.out)
  have HB2 : Hid (Below w.heap.size w w2) := Lib.hid (by rw [hw2]; exact bel_alloc HB1.out _)
  rw [← hw2]
  clear hw2
  obtain ⟨g2, hg2⟩ : ∃ g2, g2 = w1.heap.size := ⟨_, rfl⟩
  rw [← hg2] at HW2 ⊢
  have hne : w.heap.size ≠ g2 := by omega
  have hle : w.heap.size ≤ g2 := by omega
  clear hgl hg2
  refine (HC0.out _ g2 HW2.out).mono ?_
  rintro e w3 ⟨rfl, hw⟩
  rw [HS1.out] at hw
  have HW3 := Lib.hid hw.1
  have HK3 := Lib.hid (hw.keep hne HK2.out)
  have HB3 := Lib.hid (hw.below HB2.out hle)
  obtain ⟨c0, c1, c2, c3, c4, c5, c6, c7, c8, c9, c10⟩ := eleven HK3.out
  have cw : w3.cell? ⟨g2, 0, none⟩ = some (.string S1) := Lib.cell_of_heap HW3.out 0
  clear hw HW2 HK2 HB2
  go_wp2_with fail
  clear c0 c1 c2 c3 c4 c5 c6 c7 c8 c9 c10 cw
  obtain ⟨u3, hu3⟩ : ∃ u3, u3 = w3.alloc (.cells #[.int .i64 lo, .int .i64 hi, .string rk, .int .i64 rn, .int .i64 rv] 37) := ⟨_, rfl⟩
  obtain ⟨g3, hg3⟩ : ∃ g3, g3 = w3.heap.size := ⟨_, rfl⟩
  have hl2 : g2 < w3.heap.size := hlt HW3.out
  have hl1 : w.heap.size < w3.heap.size := hlt HK3.out
  have HWu : Hid (u3.heap[g2]? = some (.cells #[.string S1] 83 (0, 0))) := Lib.hid (by rw [hu3, Below.heap_alloc _ _ _ hl2]; exact HW3.out)
  have HBu : Hid (Below w.heap.size w u3) := Lib.hid (by rw [hu3]; exact bel_alloc HB3.out _)
  have HQu : Hid (u3.heap[g3]? = some (.cells #[.int .i64 lo, .int .i64 hi, .string rk, .int .i64 rn, .int .i64 rv] 37 (0, 0))) := Lib.hid (by rw [hu3, hg3]; exact heap_alloc_new _ _)
  have hne3 : g3 ≠ g2 := by omega
  have hle3 : w.heap.size ≤ g3 := by omega
  rw [← hu3, ← hg3]
  clear hu3 hg3 hl2 hl1 HW3 HK3 HB3
  refine (HC1.out _ g2 HWu.out).mono ?_
  rintro e w4 ⟨rfl, hw⟩
  rw [HS2.out] at hw
  have HW4 := Lib.hid hw.1
  have HQ4 := Lib.hid (hw.keep hne3 HQu.out)
  have HB4 := Lib.hid (hw.below HBu.out hle)
  obtain ⟨c0, c1, c2, c3, c4⟩ := five HQ4.out
  clear hw HWu HQu HBu
  go_wp2_with fail
  clear c0 c1 c2 c3 c4
  obtain ⟨u4, hu4⟩ : ∃ u4, u4 = w4.alloc (.cells #[.int .i64 lo, .int .i64 hi, .int .i64 rn] 2) := ⟨_, rfl⟩
  obtain ⟨g4, hg4⟩ : ∃ g4, g4 = w4.heap.size := ⟨_, rfl⟩
  have hl2 : g2 < w4.heap.size := hlt HW4.out
  have hl3 : g3 < w4.heap.size := hlt HQ4.out
  have HWv : Hid (u4.heap[g2]? = some (.cells #[.string S2] 83 (0, 0))) := Lib.hid (by rw [hu4, Below.heap_alloc _ _ _ hl2]; exact HW4.out)
  have HQv : Hid (u4.heap[g3]? = some (.cells #[.int .i64 lo, .int .i64 hi, .string rk, .int .i64 rn, .int .i64 rv] 37 (0, 0))) := Lib.hid (by rw [hu4, Below.heap_alloc _ _ _ hl3]; exact HQ4.out)
  have HTv : Hid (u4.heap[g4]? = some (.cells #[.int .i64 lo, .int .i64 hi, .int .i64 rn] 2 (0, 0))) := Lib.hid (by rw [hu4, hg4]; exact heap_alloc_new _ _)
  have HBv : Hid (Below w.heap.size w u4) := Lib.hid (by rw [hu4]; exact bel_alloc HB4.out _)
  have hne4 : g4 ≠ g2 := by omega
  rw [← hu4]
  try rw [← hg4]
  clear hu4 hg4 hl2 hl3 HW4 HQ4 HB4
  refine wp_loop_rounds 4 ?_
  rw [rounds_succ]
  obtain ⟨c0, c1, c2⟩ := three HTv.out
  go_wp2_with fail
  clear c0 c1 c2
  refine (HC2.out _ g2 HWv.out).mono ?_
  rintro e w5 ⟨rfl, hw⟩
  rw [HS3.out] at hw
  have HW5 := Lib.hid hw.1
  have HQ5 := Lib.hid (hw.keep hne3 HQv.out)
  have HT5 := Lib.hid (hw.keep hne4 HTv.out)
  have HB5 := Lib.hid (hw.below HBv.out hle)
  clear hw HWv HQv HTv HBv
  go_wp2_with fail
  rw [rounds_succ]
  obtain ⟨c0, c1, c2⟩ := three HT5.out
  go_wp2_with fail
  clear c0 c1 c2
  refine (HC3.out _ g2 HW5.out).mono ?_
  rintro e w6 ⟨rfl, hw⟩
  rw [HS4.out] at hw
  have HW6 := Lib.hid hw.1
  have HQ6 := Lib.hid (hw.keep hne3 HQ5.out)
  have HT6 := Lib.hid (hw.keep hne4 HT5.out)
  have HB6 := Lib.hid (hw.below HB5.out hle)
  clear hw HW5 HQ5 HT5 HB5
  go_wp2_with fail
  rw [rounds_succ]
  obtain ⟨c0, c1, c2⟩ := three HT6.out
  go_wp2_with fail
  clear c0 c1 c2
  refine (HC4.out _ g2 HW6.out).mono ?_
  rintro e w7 ⟨rfl, hw⟩
  rw [HS5.out] at hw
  have HW7 := Lib.hid hw.1
  have HQ7 := Lib.hid (hw.keep hne3 HQ6.out)
  have HT7 := Lib.hid (hw.keep hne4 HT6.out)
  have HB7 := Lib.hid (hw.below HB6.out hle)
  clear hw HW6 HQ6 HT6 HB6
  go_wp2_with fail
  rw [rounds_succ]
  obtain ⟨c0, c1, c2, c3, c4⟩ := five HQ7.out
  go_wp2_with fail
  clear c0 c1 c2 c3 c4
  refine (HC5.out _ g2 HW7.out).mono ?_
  rintro e w8 ⟨rfl, hw⟩
  rw [HS6.out] at hw
  have hB := hw.below HB7.out hle
  have cw : w8.cell? ⟨g2, 0, none⟩ = some (.string S6) := Lib.cell_of_heap hw.1 0
  have HB8 := Lib.hid hB
  clear hw hB
  go_wp2_with fail
  go_ret2
  exact ⟨rfl, HB8.out⟩
set_option maxHeartbeats 1000000 in
set_option maxRecDepth 100000 in
theorem put_item_no (i : It) (w : World) (hR : rightI i = false) :
    Calls Tryz.prog 7 #[itV i] w fun e w' => e = .returned (.tuple #[.string ⟨#[]⟩, .int .i64 1]) ∧ Below w.heap.size w w' := by
  have hA := fun W => right_any i W false hR
  clear hR
  obtain ⟨kind, ek, ea, ev, ma, n, lo, hi, rk, rn, rv⟩ := i
  unfold itV at hA ⊢
  simp only at hA ⊢
  have HR := Lib.hid hA
  clear hA
  go_enter Tryz.func7, Tryz.ntmps7
  go_wp2_with fail
  refine (HR.out _).mono ?_
  rintro e w1 ⟨rfl, hb⟩
  have B1 : Below w.heap.size w w1 := (bel_alloc (Below.refl _ _) _).trans (hb.mono (bel_alloc (Below.refl _ _) _).size)
  clear hb
  go_wp2_with fail
  go_ret2
  exact ⟨rfl, B1⟩
theorem keepB11 (c0 c1 c2 c3 c4 c5 c6 c7 c8 c9 c10 : Value) {g : Nat} {W w' w2 : World} (hp : g < W.heap.size) (h : Below W.heap.size W w' ∧ w'.cell? ⟨g, 0, none⟩ = some (c0) ∧ w'.cell? ⟨g, 1, none⟩ = some (c1) ∧ w'.cell? ⟨g, 2, none⟩ = some (c2) ∧ w'.cell? ⟨g, 3, none⟩ = some (c3) ∧ w'.cell? ⟨g, 4, none⟩ = some (c4) ∧ w'.cell? ⟨g, 5, none⟩ = some (c5) ∧ w'.cell? ⟨g, 6, none⟩ = some (c6) ∧ w'.cell? ⟨g, 7, none⟩ = some (c7) ∧ w'.cell? ⟨g, 8, none⟩ = some (c8) ∧ w'.cell? ⟨g, 9, none⟩ = some (c9) ∧ w'.cell? ⟨g, 10, none⟩ = some (c10)) (hb : Below w'.heap.size w' w2) : Below W.heap.size W w2 ∧ w2.cell? ⟨g, 0, none⟩ = some (c0) ∧ w2.cell? ⟨g, 1, none⟩ = some (c1) ∧ w2.cell? ⟨g, 2, none⟩ = some (c2) ∧ w2.cell? ⟨g, 3, none⟩ = some (c3) ∧ w2.cell? ⟨g, 4, none⟩ = some (c4) ∧ w2.cell? ⟨g, 5, none⟩ = some (c5) ∧ w2.cell? ⟨g, 6, none⟩ = some (c6) ∧ w2.cell? ⟨g, 7, none⟩ = some (c7) ∧ w2.cell? ⟨g, 8, none⟩ = some (c8) ∧ w2.cell? ⟨g, 9, none⟩ = some (c9) ∧ w2.cell? ⟨g, 10, none⟩ = some (c10) := by
  obtain ⟨hB0, h0, h1, h2, h3, h4, h5, h6, h7, h8, h9, h10⟩ := h
  exact ⟨hB0.trans (hb.mono hB0.size), cell_keep hb hB0 hp h0, cell_keep hb hB0 hp h1, cell_keep hb hB0 hp h2, cell_keep hb hB0 hp h3, cell_keep hb hB0 hp h4, cell_keep hb hB0 hp h5, cell_keep hb hB0 hp h6, cell_keep hb hB0 hp h7, cell_keep hb hB0 hp h8, cell_keep hb hB0 hp h9, cell_keep hb hB0 hp h10⟩
theorem keepD11 (c0 c1 c2 c3 c4 c5 c6 c7 c8 c9 c10 : Value) {g : Nat} {W w' : World} (h : Below W.heap.size W w' ∧ w'.cell? ⟨g, 0, none⟩ = some (c0) ∧ w'.cell? ⟨g, 1, none⟩ = some (c1) ∧ w'.cell? ⟨g, 2, none⟩ = some (c2) ∧ w'.cell? ⟨g, 3, none⟩ = some (c3) ∧ w'.cell? ⟨g, 4, none⟩ = some (c4) ∧ w'.cell? ⟨g, 5, none⟩ = some (c5) ∧ w'.cell? ⟨g, 6, none⟩ = some (c6) ∧ w'.cell? ⟨g, 7, none⟩ = some (c7) ∧ w'.cell? ⟨g, 8, none⟩ = some (c8) ∧ w'.cell? ⟨g, 9, none⟩ = some (c9) ∧ w'.cell? ⟨g, 10, none⟩ = some (c10)) : Below W.heap.size W w'.drew ∧ w'.drew.cell? ⟨g, 0, none⟩ = some (c0) ∧ w'.drew.cell? ⟨g, 1, none⟩ = some (c1) ∧ w'.drew.cell? ⟨g, 2, none⟩ = some (c2) ∧ w'.drew.cell? ⟨g, 3, none⟩ = some (c3) ∧ w'.drew.cell? ⟨g, 4, none⟩ = some (c4) ∧ w'.drew.cell? ⟨g, 5, none⟩ = some (c5) ∧ w'.drew.cell? ⟨g, 6, none⟩ = some (c6) ∧ w'.drew.cell? ⟨g, 7, none⟩ = some (c7) ∧ w'.drew.cell? ⟨g, 8, none⟩ = some (c8) ∧ w'.drew.cell? ⟨g, 9, none⟩ = some (c9) ∧ w'.drew.cell? ⟨g, 10, none⟩ = some (c10) := ⟨h.1.drew, h.2⟩
theorem empB (d : ByteArray) : (⟨#[]⟩ : ByteArray) ++ d = d := by
  apply ByteArray.ext
  simp [ByteArray.data_append]
/-- The bytes of an item that may be. -/
def bytesI (i : It) : ByteArray :=
  if i.kind = 1 then digS (1 : Int).toNat ++ (digS i.ek.size ++ i.ek) ++ digS i.ea.toNat ++ digS (zz i.ev)
  else if i.kind = 2 then digS (2 : Int).toNat ++ digS i.ma.toNat
  else if i.kind = 3 then digS (3 : Int).toNat
  else if i.kind = 4 then digS (4 : Int).toNat ++ digS i.n.toNat
  else digS (5 : Int).toNat ++ (digS i.rk.size ++ i.rk) ++ digS i.lo.toNat ++ digS i.hi.toNat ++ digS i.rn.toNat ++ digS (zz i.rv)
theorem right_bare {i : It} (h : rightI i = true) : bareB i = true := by
  unfold rightI at h
  simp only [Bool.and_eq_true] at h
  exact h.1
theorem right_kind {i : It} (h : rightI i = true) : i.kind = 1 ∨ i.kind = 2 ∨ i.kind = 3 ∨ i.kind = 4 ∨ i.kind = 5 := by
  have hb := right_bare h
  unfold bareB at hb
  by_cases h1 : i.kind = 1
  · exact .inl h1
  by_cases h2 : i.kind = 2
  · exact .inr (.inl h2)
  by_cases h3 : i.kind = 3
  · exact .inr (.inr (.inl h3))
  by_cases h4 : i.kind = 4
  · exact .inr (.inr (.inr (.inl h4)))
  by_cases h5 : i.kind = 5
  · exact .inr (.inr (.inr (.inr h5)))
  simp [h1, h2, h3, h4, h5] at hb
theorem ev_facts {k : ByteArray} {a : Int} (h : evB k a = true) : k.size ≤ 16 ∧ 0 ≤ a ∧ a ≤ 1099511627776 := by
  unfold evB keyB at h
  simp at h
  omega
theorem res_facts {lo hi n : Int} {k : ByteArray} (h : resB lo hi k n = true) : k.size ≤ 16 ∧ 0 ≤ lo ∧ lo ≤ 1099511627776 ∧ 0 ≤ hi ∧ hi ≤ 1099511627776 ∧ 0 ≤ n ∧ n ≤ 1099511627776 := by
  unfold resB keyB at h
  simp at h
  omega
theorem d10i {a : Int} (h : a ≤ 1099511627776) : (digS a.toNat).size ≤ 10 := dig10 (by omega)
set_option maxRecDepth 100000 in
theorem put_any (i : It) (wf : i.Wf) (w : World) (hR : rightI i = true) :
    Calls Tryz.prog 7 #[itV i] w fun e w' => e = .returned (.tuple #[.string (bytesI i), .int .i64 0]) ∧ Below w.heap.size w w' := by
  have hk := right_kind hR
  have hB := right_bare hR
  obtain ⟨kind, ek, ea, ev, ma, n, lo, hi, rk, rn, rv⟩ := i
  obtain ⟨-, -, -, we, -, -, -, -, -, -, wr⟩ := wf
  simp only at hk we wr
  unfold wfL at we wr
  have h1 : (digS (1 : Int).toNat).size ≤ 10 := d10i (by decide)
  have h2 : (digS (2 : Int).toNat).size ≤ 10 := d10i (by decide)
  have h4 : (digS (4 : Int).toNat).size ≤ 10 := d10i (by decide)
  have h5 : (digS (5 : Int).toNat).size ≤ 10 := d10i (by decide)
  rcases hk with rfl | rfl | rfl | rfl | rfl
  · obtain ⟨e1, e2, e3⟩ := ev_facts (show evB ek ea = true from hB)
    have z1 := dig10 (n := ek.size) (by omega)
    have z2 := d10i e3
    have z3 := dig10 (zz_lt we.1 we.2)
    rw [show bytesI ⟨1, ek, ea, ev, ma, n, lo, hi, rk, rn, rv⟩ = digS (1 : Int).toNat ++ (digS ek.size ++ ek) ++ digS ea.toNat ++ digS (zz ev) from rfl]
    exact put_item1 1 ek ea ev ma n lo hi rk rn rv w rfl hR _ (empB _) (by omega) _ rfl (by simp only [ByteArray.size_append]; omega) e1 _ rfl (by simp only [ByteArray.size_append]; omega) e2 e3 _ rfl (by simp only [ByteArray.size_append]; omega) we.1 we.2
  · have hB' : (decide (0 ≤ ma) && decide (ma ≤ 1099511627776)) = true := hB
    simp at hB'
    have z2 := d10i hB'.2
    rw [show bytesI ⟨2, ek, ea, ev, ma, n, lo, hi, rk, rn, rv⟩ = digS (2 : Int).toNat ++ digS ma.toNat from rfl]
    exact put_item2 2 ek ea ev ma n lo hi rk rn rv w rfl hR _ (empB _) (by omega) _ rfl (by simp only [ByteArray.size_append]; omega) hB'.1 hB'.2
  · rw [show bytesI ⟨3, ek, ea, ev, ma, n, lo, hi, rk, rn, rv⟩ = digS (3 : Int).toNat from rfl]
    exact put_item3 3 ek ea ev ma n lo hi rk rn rv w rfl hR _ (empB _) (by have := d10i (a := 3) (by decide); omega)
  · have hB' : (decide (1 ≤ n) && decide (n ≤ 1073741824)) = true := hB
    simp at hB'
    have z2 := d10i (a := n) (by omega)
    rw [show bytesI ⟨4, ek, ea, ev, ma, n, lo, hi, rk, rn, rv⟩ = digS (4 : Int).toNat ++ digS n.toNat from rfl]
    exact put_item4 4 ek ea ev ma n lo hi rk rn rv w rfl hR _ (empB _) (by omega) _ rfl (by simp only [ByteArray.size_append]; omega) (by omega) (by omega)
  · obtain ⟨e1, l0, l1, i0, i1, n0, n1⟩ := res_facts (show resB lo hi rk rn = true from hB)
    have z1 := dig10 (n := rk.size) (by omega)
    have z2 := d10i l1
    have z3 := d10i i1
    have z4 := d10i n1
    have z5 := dig10 (zz_lt wr.1 wr.2)
    rw [show bytesI ⟨5, ek, ea, ev, ma, n, lo, hi, rk, rn, rv⟩ = digS (5 : Int).toNat ++ (digS rk.size ++ rk) ++ digS lo.toNat ++ digS hi.toNat ++ digS rn.toNat ++ digS (zz rv) from rfl]
    exact put_item5 5 ek ea ev ma n lo hi rk rn rv w rfl hR _ (empB _) (by omega) _ rfl (by simp only [ByteArray.size_append]; omega) _ rfl (by simp only [ByteArray.size_append]; omega) _ rfl (by simp only [ByteArray.size_append]; omega) _ rfl (by simp only [ByteArray.size_append]; omega) _ rfl (by simp only [ByteArray.size_append]; omega) e1 l0 l1 i0 i1 n0 n1 wr.1 wr.2
end Go.Proofs.YtlboehpgpbchhaaGreat.Itm
