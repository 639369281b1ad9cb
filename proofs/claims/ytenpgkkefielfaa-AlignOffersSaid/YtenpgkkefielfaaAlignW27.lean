/-
  WALKS of layer 18: the reference's New, whose rows are its own; the reference's Offer.
-/
import Derived.Test.YtenpgkkefielfaaAlignW26
import Derived.Test.YtenpgkkefielfaaAlignW19
import Derived.Test.YtenpgkkefielfaaAlignW20
import Derived.Deep.DeepCutAuto
set_option linter.unusedVariables false
set_option linter.unusedSimpArgs false
namespace Go.Proofs.Ytenpgkkefielfaa
open Go.RowKit

theorem al_form5 {W : World} {v : Value} {a : Aln} (h : AlAt W v a) : ∃ A1 c1 A2 c2, v = .agg #[.int .i64 a.n, .slice A1 a.got.length c1, .slice A2 a.held.length c2] := by
  obtain ⟨Ag, cg, Ah, ch, e, -⟩ := al_form h
  exact ⟨_, _, _, _, e⟩
def RnOwn (N : Nat) (w : World) (e : Ending) (w' : World) : Prop := (∃ v, e = .returned (.tuple #[v, .int .i64 0]) ∧ (∀ W' : World, (∀ b, w.heap.size ≤ b → b < w'.heap.size → W'.heap[b]? = w'.heap[b]?) → AlAt W' v (newA' N))) ∧ Below w.heap.size w w'
set_option maxHeartbeats 4000000 in
set_option maxRecDepth 100000 in
theorem ranew_own (N : Nat) (w : World) (h1 : 1 ≤ N) (h8 : N ≤ 8) :
    Calls Try.prog 26 #[.int .i64 (N : Int)] w (RnOwn N w) := by
  obtain ⟨iI, hi, hi0, hi1, hi2⟩ := info_parts info_bl
  have HI := Lib.hid hi
  have HI0 := Lib.hid hi0
  have HI1 := Lib.hid hi1
  have HI2 := Lib.hid hi2
  clear hi hi0 hi1 hi2
  obtain ⟨iJ, hi, hi0, hi1, hi2⟩ := info_parts info_li
  have HJ := Lib.hid hi
  have HJ0 := Lib.hid hi0
  have HJ1 := Lib.hid hi1
  have HJ2 := Lib.hid hi2
  clear hi hi0 hi1 hi2
  have t0 : decide ((N : Int) < 1) = false := by simp; omega
  have t1 : decide (8 < (N : Int)) = false := by simp; omega
  go_enter Try.func26, Try.ntmps26
  go_wp2_with fail
  go_loopw [5] (fun i wr => ArNew N w i wr) (fun i _ => N - (intOf i).toNat)
  case atStart =>
    exact ⟨0, _, _, Nat.zero_le _, rfl, heap_at _ _ _ (by simp), heap_below (heap_at w _ _ rfl) (bel_alloc (Below.refl _ _) _), World.ownsRow_nil _ _ _ _, World.ownsRow_nil _ _ _ _, bel_alloc (bel_alloc (Below.refl _ _) _) _⟩
  case round =>
    obtain ⟨k, u1, u2, hk, rfl, hg, hz, hown1, hown2, hbel⟩ := hrel
    have HB := Lib.hid hbel
    have HG := Lib.hid hg
    have HZ := Lib.hid hz
    have O1 := Lib.hid hown1
    have O2 := Lib.hid hown2
    clear hbel hg hz hown1 hown2
    obtain ⟨A1, c1, rfl⟩ := own_slice O1.out
    obtain ⟨A2, c2, rfl⟩ := own_slice O2.out
    have gz := blk_lt HG.out
    have g1 := cellsAt HG.out 1
    have g2 := cellsAt HG.out 2
    have gf := frozAt HG.out
    simp at g1 g2
    by_cases hlt : k < N
    · go_wp2_with (at_builtin; refine wpList_push _ rfl _ _ 24 rfl (w.heap.size + 2) 4 iI (.bool false) 1 1 Try.underlying24 HI.out HI0.out HI1.out HI2.out rfl (by decide) _ _ _ rfl O1.out _ _ rfl rfl (by intro u hu; simp at hu; subst hu; rfl) (by unfold maxLen; omega) (by omega) (by omega) ?_)
      intro v5 W5 hown5 BG hblk
      obtain ⟨A5, c5, rfl⟩ := own_slice hown5
      have G5 := Lib.hid ((BG.block (w.heap.size + 1) (by omega)).trans HG.out)
      have Z5 := Lib.hid ((BG.block w.heap.size (by omega)).trans HZ.out)
      have P5 := Lib.hid (own_keep O2.out (fun j hj => hblk j (O2.out.lt j hj).2 (fun e => by rcases own_ne O1.out O2.out (by decide) with h | h; (rw [h] at e; cases e); exact h (e.trans hj.symm))))
      have B5 := Lib.hid (HB.out.trans (BG.mono (by omega)))
      have O5 := Lib.hid hown5
      clear hown5 BG hblk g1 g2 gf gz HG HZ HB O1 O2
      have G6 := Lib.hid (by simpa using blk_set G5.out 1 (.slice A5 (k + 1) c5) : (W5.setCell ⟨w.heap.size + 1, 1, none⟩ (.slice A5 (k + 1) c5)).heap[w.heap.size + 1]? = some (.cells #[.int .i64 0, .slice A5 (k + 1) c5, .slice A2 k c2] 26 (0, 0)))
      have Z6 := Lib.hid ((Below.heap_setCell W5 ⟨w.heap.size + 1, 1, none⟩ (.slice A5 (k + 1) c5) w.heap.size (by simp)).trans Z5.out)
      have O6 := Lib.hid (own_set O5.out (p := ⟨w.heap.size + 1, 1, none⟩) (Nat.lt_succ_self _) (.slice A5 (k + 1) c5))
      have P6 := Lib.hid (own_set P5.out (p := ⟨w.heap.size + 1, 1, none⟩) (Nat.lt_succ_self _) (.slice A5 (k + 1) c5))
      have B6 := Lib.hid (B5.out.setCell (p := ⟨w.heap.size + 1, 1, none⟩) (Nat.le_succ _) (.slice A5 (k + 1) c5))
      have g1 := cellsAt G5.out 1
      have gf := frozAt G5.out
      have gz := blk_lt G5.out
      simp at g1
      go_upto_region 8 with fail
      clear g1 gf gz G5 Z5 P5 B5 O5
      generalize W5.setCell ⟨w.heap.size + 1, 1, none⟩ (.slice A5 (k + 1) c5) = W6 at *
      have g2 := cellsAt G6.out 2
      have gf := frozAt G6.out
      have gz := blk_lt G6.out
      simp at g2
      go_wp2_with (at_builtin; refine wpList_push _ rfl _ _ 22 rfl (w.heap.size + 2) 32 iJ (.slice none 0 0) 1 24 Try.underlying22 HJ.out HJ0.out HJ1.out HJ2.out rfl (by decide) _ _ _ rfl P6.out _ _ rfl rfl (by intro u hu; simp at hu; subst hu; rfl) (by unfold maxLen; omega) (by omega) (by omega) ?_)
      intro v7 W7 hown7 BG hblk
      obtain ⟨A7, c7, rfl⟩ := own_slice hown7
      have G7 := Lib.hid ((BG.block (w.heap.size + 1) (by omega)).trans G6.out)
      have Z7 := Lib.hid ((BG.block w.heap.size (by omega)).trans Z6.out)
      have O7 := Lib.hid (own_keep O6.out (fun j hj => hblk j (O6.out.lt j hj).2 (fun e => by rcases own_ne P6.out O6.out (by decide) with h | h; (rw [h] at e; cases e); exact h (e.trans hj.symm))))
      have B7 := Lib.hid (B6.out.trans (BG.mono (by omega)))
      have P7 := Lib.hid hown7
      clear hown7 BG hblk g2 gf gz G6 Z6 B6 O6 P6
      have g2 := cellsAt G7.out 2
      have gf := frozAt G7.out
      have gz := blk_lt G7.out
      simp at g2
      go_wp2_with fail
      go_roundw
      case rel =>
        refine ⟨k + 1, _, _, by omega, by go_num, by simpa using blk_set G7.out 2 _, (Below.heap_setCell _ _ _ _ (by simp)).trans Z7.out, ?_, ?_, B7.out.setCell (p := ⟨w.heap.size + 1, 2, none⟩) (Nat.le_succ _) _⟩
        · rw [List.replicate_succ', List.flatMap_append]
          exact own_set O7.out (p := ⟨w.heap.size + 1, 2, none⟩) (Nat.lt_succ_self _) _
        · rw [List.replicate_succ', List.flatMap_append]
          exact own_set P7.out (p := ⟨w.heap.size + 1, 2, none⟩) (Nat.lt_succ_self _) _
      case measure => simp [intOf]; omega
    · have hkn : N = k := by omega
      subst hkn
      have g0 := cellsAt HG.out 0
      have z0 := cellsAt HZ.out 0
      have z1 := cellsAt HZ.out 1
      have z2 := cellsAt HZ.out 2
      have zf := frozAt HZ.out
      have zz := blk_lt HZ.out
      simp at g0 z0 z1 z2
      go_wp2_with fail
      have E := blk_set (blk_set (blk_set HZ.out 0 (.int .i64 0)) 1 (.slice A1 N c1)) 2 (.slice A2 N c2)
      simp at E
      have hw : w.heap.size < w.heap.size + 2 := by omega
      have OE := own_set (own_set (own_set O1.out (p := ⟨w.heap.size, 0, none⟩) hw (.int .i64 0)) (p := ⟨w.heap.size, 1, none⟩) hw (.slice A1 N c1)) (p := ⟨w.heap.size, 2, none⟩) hw (.slice A2 N c2)
      have PE := own_set (own_set (own_set O2.out (p := ⟨w.heap.size, 0, none⟩) hw (.int .i64 0)) (p := ⟨w.heap.size, 1, none⟩) hw (.slice A1 N c1)) (p := ⟨w.heap.size, 2, none⟩) hw (.slice A2 N c2)
      have BE := ((HB.out.setCell (p := ⟨w.heap.size, 0, none⟩) (Nat.le_refl _) (.int .i64 0)).setCell (p := ⟨w.heap.size, 1, none⟩) (Nat.le_refl _) (.slice A1 N c1)).setCell (p := ⟨w.heap.size, 2, none⟩) (Nat.le_refl _) (.slice A2 N c2)
      clear g0 g1 g2 gf gz z0 z1 z2 zf zz
      generalize ((wr.setCell ⟨w.heap.size, 0, none⟩ (.int .i64 0)).setCell ⟨w.heap.size, 1, none⟩ (.slice A1 N c1)).setCell ⟨w.heap.size, 2, none⟩ (.slice A2 N c2) = W6 at *
      have e0 := cellsAt E 0
      have e1 := cellsAt E 1
      have e2 := cellsAt E 2
      simp at e0 e1 e2
      exact bodyPost_ret (v := .tuple #[.agg #[.int .i64 0, .slice A1 N c1, .slice A2 N c2], .int .i64 0]) (by simp [results, Try.results26, go_sem, e0, e1, e2]) rfl ⟨⟨_, rfl, fun W' hW' => newA_at (Row.of_own bCs_len (own_keep OE (fun j hj => hW' j (by have := (OE.lt j hj).1; omega) (OE.lt j hj).2)) (by simp)) (Row.of_own Hl.cs_len (own_keep PE (fun j hj => hW' j (by have := (PE.lt j hj).1; omega) (PE.lt j hj).2)) (by simp)) h8⟩, BE⟩
/-- What the reference's Offer answers. -/
def RoTo (r : Ofr) (w : World) (e : Ending) (w' : World) : Prop :=
  (∃ x1 x2 x3 a' vl, e = .returned (.agg #[x1, x2, x3, .bool r.pass, .int .i64 r.done, vl, .int .i64 r.er]) ∧ AlAt w' (.agg #[x1, x2, x3]) a' ∧ likeA r.a a' ∧ Row Lt.cs 12 w' vl r.late) ∧ Below w.heap.size w w'
theorem set7 {w1 : World} {g : Nat} {x0 x1 x2 x3 x4 x5 x6 : Value} {T : TypeId} (h : w1.heap[g]? = some (.cells #[x0, x1, x2, x3, x4, x5, x6] T (0, 0))) (a b c d e f i : Value) :
    (((((((w1.setCell ⟨g, 0, none⟩ a).setCell ⟨g, 1, none⟩ b).setCell ⟨g, 2, none⟩ c).setCell ⟨g, 3, none⟩ d).setCell ⟨g, 4, none⟩ e).setCell ⟨g, 5, none⟩ f).setCell ⟨g, 6, none⟩ i).heap[g]? = some (.cells #[a, b, c, d, e, f, i] T (0, 0)) := by
  have := blk_set (blk_set (blk_set (blk_set (blk_set (blk_set (blk_set h 0 a) 1 b) 2 c) 3 d) 4 e) 5 f) 6 i
  simpa using this
theorem bel7 {w w1 : World} {n : Nat} (B : Below n w w1) {g : Nat} (hg : n ≤ g) (a b c d e f i : Value) :
    Below n w (((((((w1.setCell ⟨g, 0, none⟩ a).setCell ⟨g, 1, none⟩ b).setCell ⟨g, 2, none⟩ c).setCell ⟨g, 3, none⟩ d).setCell ⟨g, 4, none⟩ e).setCell ⟨g, 5, none⟩ f).setCell ⟨g, 6, none⟩ i) :=
  ((((((B.setCell (p := ⟨g, 0, none⟩) hg a).setCell (p := ⟨g, 1, none⟩) hg b).setCell (p := ⟨g, 2, none⟩) hg c).setCell (p := ⟨g, 3, none⟩) hg d).setCell (p := ⟨g, 4, none⟩) hg e).setCell (p := ⟨g, 5, none⟩) hg f).setCell (p := ⟨g, 6, none⟩) hg i
theorem blk7 (w1 : World) (g k : Nat) (hk : k ≠ g) (a b c d e f i : Value) :
    (((((((w1.setCell ⟨g, 0, none⟩ a).setCell ⟨g, 1, none⟩ b).setCell ⟨g, 2, none⟩ c).setCell ⟨g, 3, none⟩ d).setCell ⟨g, 4, none⟩ e).setCell ⟨g, 5, none⟩ f).setCell ⟨g, 6, none⟩ i).heap[k]? = w1.heap[k]? := by
  have h1 : ∀ (w : World) (j : Nat) (u : Value), (w.setCell ⟨g, j, none⟩ u).heap[k]? = w.heap[k]? := fun w j u => Below.heap_setCell w ⟨g, j, none⟩ u k hk
  rw [h1, h1, h1, h1, h1, h1, h1]
theorem lateTo_like {a b : Aln} (h : likeA a b) (k : Nat) : lateTo b.held k = lateTo a.held k := by
  unfold lateTo
  congr 1
  funext j
  rw [likeA_l h j]
theorem like_trans {a b c : Aln} (h : likeA a b) (k : likeA b c) : likeA a c := by
  refine ⟨k.1.trans h.1, k.2.1.trans h.2.1, k.2.2.1.trans h.2.2.1, fun j x z hx hz => ?_⟩
  obtain ⟨y, hy⟩ : ∃ y, b.held[j]? = some y := ⟨_, List.getElem?_eq_getElem (by have := (List.getElem?_eq_some_iff.1 hx).1; rw [h.2.2.1]; exact this)⟩
  exact (k.2.2.2 j y z hy hz).trans (h.2.2.2 j x y hx hy)
theorem all_not (l : List Bool) (h : ∀ (j : Nat) (x : Bool), l[j]? = some x → x = true) : l.contains false = false := by
  rw [Bool.eq_false_iff]
  intro hc
  obtain ⟨j, hj⟩ := List.mem_iff_getElem?.1 (List.contains_iff_mem.1 hc)
  exact absurd (h j _ hj) (by simp)
def RfRel (a : Aln) (g : List Bool) (w0 : World) (u i : Value) (wr : World) : Prop := ∃ k : Nat, k ≤ g.length ∧ i = .int .i64 k ∧ (∀ (j : Nat) (x : Bool), j < k → g[j]? = some x → x = true) ∧ wr.ownsRow w0.heap.size 49 12 u (lateTo a.held k).length ((lateTo a.held k).flatMap Lt.cs) ∧ Below w0.heap.size w0 wr
def RiRl (a : Aln) (k : Nat) (l : List It) (w0 : World) (u i : Value) (wr : World) : Prop := ∃ j : Nat, j ≤ l.length ∧ i = .int .i64 j ∧ wr.ownsRow w0.heap.size 49 12 u ((lateTo a.held k).length + j) ((lateTo a.held k).flatMap Lt.cs ++ (lateL k (l.take j)).flatMap Lt.cs) ∧ Below w0.heap.size w0 wr
set_option maxRecDepth 100000 in
set_option maxHeartbeats 16000000 in
theorem roffer_any (a : Aln) (i : Int) (hi : wfL i) (it : It) (hwf : it.Wf) (v : Value) (w : World) (hv : AlAt w v a) :
    Calls Try.prog 28 #[v, .int .i64 i, itV it] w (RoTo (ofer a i it) w) := by
  have HV := Lib.hid hv
  have HWF := Lib.hid hwf
  have HI := Lib.hid hi
  obtain ⟨ri, hri⟩ : ∃ q, rightI it = q := ⟨_, rfl⟩
  have HRI := Lib.hid (fun W => rright_any it W ri hri)
  obtain ⟨ra, hra⟩ : ∃ q, rightA a = q := ⟨_, rfl⟩
  have HR := Lib.hid (fun v W hW => raright_any a v W hW ra hra)
  have HRA := Lib.hid hra
  have HRI2 := Lib.hid hri
  have HBH := Lib.hid (fun (N : Nat) (hN : i = N) (hN2 : N < a.got.length) (hr : rightA a = true) v W hW => behind_any a N it hwf v W hW hr hN2)
  obtain ⟨R, hR⟩ : ∃ R, ofer a i it = R := ⟨_, rfl⟩
  have HO := Lib.hid hR
  rw [hR]
  clear hR
  obtain ⟨Ag, cg, Ah, ch, rfl, -, -, -, hn, hlg, hlh⟩ := al_form hv
  unfold maxLen at hlg hlh
  obtain ⟨lg, hlg'⟩ : ∃ n, a.got.length = n := ⟨_, rfl⟩
  obtain ⟨lh, hlh'⟩ : ∃ n, a.held.length = n := ⟨_, rfl⟩
  have HLG := Lib.hid hlg'
  have HLH := Lib.hid hlh'
  rw [hlg', hlh'] at HV
  rw [hlg'] at hlg
  rw [hlh'] at hlh
  rw [hlg', hlh']
  unfold wfL at hi hn
  clear hv hlg' hlh' hwf hra hri
  obtain ⟨j0, j1, j2, j3, j4, j5, j6, j7, j8, j9, j10⟩ := it
  unfold itV
  unfold itV at HRI HBH
  go_enter Try.func28, Try.ntmps28
  go_wp2_with fail
  have KV := HV
  obtain ⟨W1, hW2⟩ : ∃ X, X = (((w).alloc (.cells #[.int .i64 a.n, .slice Ag lg cg, .slice Ah lh ch] 26)).alloc (.cells #[.int .i64 j0, .string j1, .int .i64 j2, .int .i64 j3, .int .i64 j4, .int .i64 j5, .int .i64 j6, .int .i64 j7, .string j8, .int .i64 j9, .int .i64 j10] 43)).alloc (.cells #[.int .i64 0, .slice none 0 0, .slice none 0 0, .bool false, .int .i64 0, .slice none 0 0, .int .i64 0] 59) := ⟨_, rfl⟩
  rw [← hW2]
  have hb3 : Below w.heap.size w W1 := by rw [hW2]; exact bel_alloc (bel_alloc (bel_alloc (Below.refl _ _) _) _) _
  have Ns := Lib.hid (show W1.heap[w.heap.size]? = some (.cells #[.int .i64 a.n, .slice Ag lg cg, .slice Ah lh ch] 26 (0, 0)) by rw [hW2]; exact heap_below (heap_at (w) _ (w.heap.size) (by simp)) (bel_alloc (bel_alloc (Below.refl _ _) _) _))
  have Nt := Lib.hid (show W1.heap[w.heap.size + 1]? = some (.cells #[.int .i64 j0, .string j1, .int .i64 j2, .int .i64 j3, .int .i64 j4, .int .i64 j5, .int .i64 j6, .int .i64 j7, .string j8, .int .i64 j9, .int .i64 j10] 43 (0, 0)) by rw [hW2]; exact heap_below (heap_at ((w).alloc (.cells #[.int .i64 a.n, .slice Ag lg cg, .slice Ah lh ch] 26)) _ (w.heap.size + 1) (by simp)) (bel_alloc (Below.refl _ _) _))
  have Nz := Lib.hid (show W1.heap[w.heap.size + 1 + 1]? = some (.cells #[.int .i64 0, .slice none 0 0, .slice none 0 0, .bool false, .int .i64 0, .slice none 0 0, .int .i64 0] 59 (0, 0)) by rw [hW2]; exact heap_at (((w).alloc (.cells #[.int .i64 a.n, .slice Ag lg cg, .slice Ah lh ch] 26)).alloc (.cells #[.int .i64 j0, .string j1, .int .i64 j2, .int .i64 j3, .int .i64 j4, .int .i64 j5, .int .i64 j6, .int .i64 j7, .string j8, .int .i64 j9, .int .i64 j10] 43)) _ (w.heap.size + 1 + 1) (by simp))
  clear hW2
  have Z := Lib.hid (AlAt.below KV.out hb3)
  clear KV
  have KV := Z
  clear Z
  have BB4 := Lib.hid hb3
  clear hb3
  have Bls := Ns
  clear Ns
  have Blt := Nt
  clear Nt
  have Blz := Nz
  clear Nz
  have zs := blk_lt Bls.out
  have xs0 := cellsAt Bls.out 0
  have xs1 := cellsAt Bls.out 1
  have xs2 := cellsAt Bls.out 2
  have fs := frozAt Bls.out
  simp at xs0 xs1 xs2
  refine (HR.out _ _ KV.out).mono ?_
  rintro e w5 ⟨rfl, hb6⟩
  clear zs fs xs0 xs1 xs2
  have Z := Lib.hid (heap_below Bls.out hb6)
  clear Bls
  have Bls := Z
  clear Z
  have Z := Lib.hid (heap_below Blt.out hb6)
  clear Blt
  have Blt := Z
  clear Z
  have Z := Lib.hid (heap_below Blz.out hb6)
  clear Blz
  have Blz := Z
  clear Z
  have Z := Lib.hid (AlAt.below KV.out hb6)
  clear KV
  have KV := Z
  clear Z
  have BB7 := Lib.hid (bThen BB4.out hb6)
  clear hb6
  have zs := blk_lt Bls.out
  have xs0 := cellsAt Bls.out 0
  have xs1 := cellsAt Bls.out 1
  have xs2 := cellsAt Bls.out 2
  have fs := frozAt Bls.out
  simp at xs0 xs1 xs2
  have zt := blk_lt Blt.out
  have xt0 := cellsAt Blt.out 0
  have xt1 := cellsAt Blt.out 1
  have xt2 := cellsAt Blt.out 2
  have xt3 := cellsAt Blt.out 3
  have xt4 := cellsAt Blt.out 4
  have xt5 := cellsAt Blt.out 5
  have xt6 := cellsAt Blt.out 6
  have xt7 := cellsAt Blt.out 7
  have xt8 := cellsAt Blt.out 8
  have xt9 := cellsAt Blt.out 9
  have xt10 := cellsAt Blt.out 10
  have ft := frozAt Blt.out
  simp at xt0 xt1 xt2 xt3 xt4 xt5 xt6 xt7 xt8 xt9 xt10
  have zz := blk_lt Blz.out
  have xz0 := cellsAt Blz.out 0
  have xz1 := cellsAt Blz.out 1
  have xz2 := cellsAt Blz.out 2
  have xz3 := cellsAt Blz.out 3
  have xz4 := cellsAt Blz.out 4
  have xz5 := cellsAt Blz.out 5
  have xz6 := cellsAt Blz.out 6
  have fz := frozAt Blz.out
  simp at xz0 xz1 xz2 xz3 xz4 xz5 xz6
  cases ra with
  | false =>
    have HOF := HO.out
    unfold ofer at HOF
    rw [if_neg (by simp [hasA, HRA.out])] at HOF
    subst HOF
    go_wp2_with fail
    have Ez := Lib.hid (set7 Blz.out (.int .i64 0) (.slice none 0 0) (.slice none 0 0) (.bool false) (.int .i64 0) (.slice none 0 0) (.int .i64 1))
    have BE := Lib.hid (bel7 BB7.out (g := w.heap.size + 1 + 1) (by omega) (.int .i64 0) (.slice none 0 0) (.slice none 0 0) (.bool false) (.int .i64 0) (.slice none 0 0) (.int .i64 1))
    have KB7 := Lib.hid (fun kq (hk : kq ≠ w.heap.size + 1 + 1) => blk7 w5 (w.heap.size + 1 + 1) kq hk (.int .i64 0) (.slice none 0 0) (.slice none 0 0) (.bool false) (.int .i64 0) (.slice none 0 0) (.int .i64 1))
    clear zs fs xs0 xs1 xs2 zt ft xt0 xt1 xt2 xt3 xt4 xt5 xt6 xt7 xt8 xt9 xt10 zz fz xz0 xz1 xz2 xz3 xz4 xz5 xz6
    generalize (((((((w5).setCell ⟨w.heap.size + 1 + 1, 0, none⟩ (.int .i64 0)).setCell ⟨w.heap.size + 1 + 1, 1, none⟩ (.slice none 0 0)).setCell ⟨w.heap.size + 1 + 1, 2, none⟩ (.slice none 0 0)).setCell ⟨w.heap.size + 1 + 1, 3, none⟩ (.bool false)).setCell ⟨w.heap.size + 1 + 1, 4, none⟩ (.int .i64 0)).setCell ⟨w.heap.size + 1 + 1, 5, none⟩ (.slice none 0 0)).setCell ⟨w.heap.size + 1 + 1, 6, none⟩ (.int .i64 1) = W9 at *
    have e0 := cellsAt Ez.out 0
    have e1 := cellsAt Ez.out 1
    have e2 := cellsAt Ez.out 2
    have e3 := cellsAt Ez.out 3
    have e4 := cellsAt Ez.out 4
    have e5 := cellsAt Ez.out 5
    have e6 := cellsAt Ez.out 6
    simp at e0 e1 e2 e3 e4 e5 e6
    refine bodyPost_ret (v := .agg #[.int .i64 0, .slice none 0 0, .slice none 0 0, .bool false, .int .i64 0, .slice none 0 0, .int .i64 1]) (by simp [results, Try.results28, go_sem, e0, e1, e2, e3, e4, e5, e6]) rfl ?_
    exact ⟨⟨_, _, _, zA, _, rfl, zA_at _, likeA_self _, Row.none_⟩, BE.out⟩
  | true =>
  have hP := right_parts HRA.out
  rw [HLH.out, HLG.out] at hP
  obtain ⟨rfl, hl8, hP3⟩ := hP
  have HHL := Lib.hid hP3
  clear hP3
  by_cases h0 : i < 0
  · have t0 : decide (i < 0) = true := by simpa using h0
    have HOF := HO.out
    unfold ofer at HOF
    rw [if_neg (by simp [hasA]; omega)] at HOF
    subst HOF
    go_wp2_with fail
    have Ez := Lib.hid (set7 Blz.out (.int .i64 0) (.slice none 0 0) (.slice none 0 0) (.bool false) (.int .i64 0) (.slice none 0 0) (.int .i64 1))
    have BE := Lib.hid (bel7 BB7.out (g := w.heap.size + 1 + 1) (by omega) (.int .i64 0) (.slice none 0 0) (.slice none 0 0) (.bool false) (.int .i64 0) (.slice none 0 0) (.int .i64 1))
    have KB7 := Lib.hid (fun kq (hk : kq ≠ w.heap.size + 1 + 1) => blk7 w5 (w.heap.size + 1 + 1) kq hk (.int .i64 0) (.slice none 0 0) (.slice none 0 0) (.bool false) (.int .i64 0) (.slice none 0 0) (.int .i64 1))
    clear zs fs xs0 xs1 xs2 zt ft xt0 xt1 xt2 xt3 xt4 xt5 xt6 xt7 xt8 xt9 xt10 zz fz xz0 xz1 xz2 xz3 xz4 xz5 xz6
    generalize (((((((w5).setCell ⟨w.heap.size + 1 + 1, 0, none⟩ (.int .i64 0)).setCell ⟨w.heap.size + 1 + 1, 1, none⟩ (.slice none 0 0)).setCell ⟨w.heap.size + 1 + 1, 2, none⟩ (.slice none 0 0)).setCell ⟨w.heap.size + 1 + 1, 3, none⟩ (.bool false)).setCell ⟨w.heap.size + 1 + 1, 4, none⟩ (.int .i64 0)).setCell ⟨w.heap.size + 1 + 1, 5, none⟩ (.slice none 0 0)).setCell ⟨w.heap.size + 1 + 1, 6, none⟩ (.int .i64 1) = W9 at *
    have e0 := cellsAt Ez.out 0
    have e1 := cellsAt Ez.out 1
    have e2 := cellsAt Ez.out 2
    have e3 := cellsAt Ez.out 3
    have e4 := cellsAt Ez.out 4
    have e5 := cellsAt Ez.out 5
    have e6 := cellsAt Ez.out 6
    simp at e0 e1 e2 e3 e4 e5 e6
    refine bodyPost_ret (v := .agg #[.int .i64 0, .slice none 0 0, .slice none 0 0, .bool false, .int .i64 0, .slice none 0 0, .int .i64 1]) (by simp [results, Try.results28, go_sem, e0, e1, e2, e3, e4, e5, e6]) rfl ?_
    exact ⟨⟨_, _, _, zA, _, rfl, zA_at _, likeA_self _, Row.none_⟩, BE.out⟩
  · have t0 : decide (i < 0) = false := by simpa using h0
    obtain ⟨N, hN⟩ : ∃ N : Nat, i = N := ⟨i.toNat, by omega⟩
    subst hN
    clear t0
    have t0 : decide ((N : Int) < 0) = false := by simp; try omega
    by_cases h1 : lh ≤ N
    · have t1 : decide ((lh : Int) ≤ (N : Int)) = true := by simp; omega
      have HOF := HO.out
      unfold ofer at HOF
      rw [if_neg (by simp [hasA, HLG.out]; omega)] at HOF
      subst HOF
      go_wp2_with fail
      have Ez := Lib.hid (set7 Blz.out (.int .i64 0) (.slice none 0 0) (.slice none 0 0) (.bool false) (.int .i64 0) (.slice none 0 0) (.int .i64 1))
      have BE := Lib.hid (bel7 BB7.out (g := w.heap.size + 1 + 1) (by omega) (.int .i64 0) (.slice none 0 0) (.slice none 0 0) (.bool false) (.int .i64 0) (.slice none 0 0) (.int .i64 1))
      have KB7 := Lib.hid (fun kq (hk : kq ≠ w.heap.size + 1 + 1) => blk7 w5 (w.heap.size + 1 + 1) kq hk (.int .i64 0) (.slice none 0 0) (.slice none 0 0) (.bool false) (.int .i64 0) (.slice none 0 0) (.int .i64 1))
      clear zs fs xs0 xs1 xs2 zt ft xt0 xt1 xt2 xt3 xt4 xt5 xt6 xt7 xt8 xt9 xt10 zz fz xz0 xz1 xz2 xz3 xz4 xz5 xz6
      generalize (((((((w5).setCell ⟨w.heap.size + 1 + 1, 0, none⟩ (.int .i64 0)).setCell ⟨w.heap.size + 1 + 1, 1, none⟩ (.slice none 0 0)).setCell ⟨w.heap.size + 1 + 1, 2, none⟩ (.slice none 0 0)).setCell ⟨w.heap.size + 1 + 1, 3, none⟩ (.bool false)).setCell ⟨w.heap.size + 1 + 1, 4, none⟩ (.int .i64 0)).setCell ⟨w.heap.size + 1 + 1, 5, none⟩ (.slice none 0 0)).setCell ⟨w.heap.size + 1 + 1, 6, none⟩ (.int .i64 1) = W9 at *
      have e0 := cellsAt Ez.out 0
      have e1 := cellsAt Ez.out 1
      have e2 := cellsAt Ez.out 2
      have e3 := cellsAt Ez.out 3
      have e4 := cellsAt Ez.out 4
      have e5 := cellsAt Ez.out 5
      have e6 := cellsAt Ez.out 6
      simp at e0 e1 e2 e3 e4 e5 e6
      refine bodyPost_ret (v := .agg #[.int .i64 0, .slice none 0 0, .slice none 0 0, .bool false, .int .i64 0, .slice none 0 0, .int .i64 1]) (by simp [results, Try.results28, go_sem, e0, e1, e2, e3, e4, e5, e6]) rfl ?_
      exact ⟨⟨_, _, _, zA, _, rfl, zA_at _, likeA_self _, Row.none_⟩, BE.out⟩
    · have t1 : decide ((lh : Int) ≤ (N : Int)) = false := by simp; omega
      have hNl : N < lh := by omega
      have hNi : (N : Int) < (lh : Int) := by omega
      have hN0 : (0 : Int) ≤ (N : Int) := by omega
      have HHA := Lib.hid (show hasA a (N : Int) = true from decide_eq_true ⟨HRA.out, by omega, by rw [HLG.out]; omega⟩)
      go_wp2_with fail
      refine (HRI.out _).mono ?_
      rintro e w8 ⟨rfl, hb9⟩
      clear zs fs xs0 xs1 xs2 zt ft xt0 xt1 xt2 xt3 xt4 xt5 xt6 xt7 xt8 xt9 xt10 zz fz xz0 xz1 xz2 xz3 xz4 xz5 xz6
      have Z := Lib.hid (heap_below Bls.out hb9)
      clear Bls
      have Bls := Z
      clear Z
      have Z := Lib.hid (heap_below Blt.out hb9)
      clear Blt
      have Blt := Z
      clear Z
      have Z := Lib.hid (heap_below Blz.out hb9)
      clear Blz
      have Blz := Z
      clear Z
      have Z := Lib.hid (AlAt.below KV.out hb9)
      clear KV
      have KV := Z
      clear Z
      have BB10 := Lib.hid (bThen BB7.out hb9)
      clear hb9
      have zs := blk_lt Bls.out
      have xs0 := cellsAt Bls.out 0
      have xs1 := cellsAt Bls.out 1
      have xs2 := cellsAt Bls.out 2
      have fs := frozAt Bls.out
      simp at xs0 xs1 xs2
      have zt := blk_lt Blt.out
      have xt0 := cellsAt Blt.out 0
      have xt1 := cellsAt Blt.out 1
      have xt2 := cellsAt Blt.out 2
      have xt3 := cellsAt Blt.out 3
      have xt4 := cellsAt Blt.out 4
      have xt5 := cellsAt Blt.out 5
      have xt6 := cellsAt Blt.out 6
      have xt7 := cellsAt Blt.out 7
      have xt8 := cellsAt Blt.out 8
      have xt9 := cellsAt Blt.out 9
      have xt10 := cellsAt Blt.out 10
      have ft := frozAt Blt.out
      simp at xt0 xt1 xt2 xt3 xt4 xt5 xt6 xt7 xt8 xt9 xt10
      have zz := blk_lt Blz.out
      have xz0 := cellsAt Blz.out 0
      have xz1 := cellsAt Blz.out 1
      have xz2 := cellsAt Blz.out 2
      have xz3 := cellsAt Blz.out 3
      have xz4 := cellsAt Blz.out 4
      have xz5 := cellsAt Blz.out 5
      have xz6 := cellsAt Blz.out 6
      have fz := frozAt Blz.out
      simp at xz0 xz1 xz2 xz3 xz4 xz5 xz6
      cases ri with
      | false =>
        have HOF := HO.out
        unfold ofer at HOF
        rw [if_neg (by rw [HRI2.out]; simp)] at HOF
        subst HOF
        go_wp2_with fail
        have Ez := Lib.hid (set7 Blz.out (.int .i64 0) (.slice none 0 0) (.slice none 0 0) (.bool false) (.int .i64 0) (.slice none 0 0) (.int .i64 1))
        have BE := Lib.hid (bel7 BB10.out (g := w.heap.size + 1 + 1) (by omega) (.int .i64 0) (.slice none 0 0) (.slice none 0 0) (.bool false) (.int .i64 0) (.slice none 0 0) (.int .i64 1))
        have KB7 := Lib.hid (fun kq (hk : kq ≠ w.heap.size + 1 + 1) => blk7 w8 (w.heap.size + 1 + 1) kq hk (.int .i64 0) (.slice none 0 0) (.slice none 0 0) (.bool false) (.int .i64 0) (.slice none 0 0) (.int .i64 1))
        clear zs fs xs0 xs1 xs2 zt ft xt0 xt1 xt2 xt3 xt4 xt5 xt6 xt7 xt8 xt9 xt10 zz fz xz0 xz1 xz2 xz3 xz4 xz5 xz6
        generalize (((((((w8).setCell ⟨w.heap.size + 1 + 1, 0, none⟩ (.int .i64 0)).setCell ⟨w.heap.size + 1 + 1, 1, none⟩ (.slice none 0 0)).setCell ⟨w.heap.size + 1 + 1, 2, none⟩ (.slice none 0 0)).setCell ⟨w.heap.size + 1 + 1, 3, none⟩ (.bool false)).setCell ⟨w.heap.size + 1 + 1, 4, none⟩ (.int .i64 0)).setCell ⟨w.heap.size + 1 + 1, 5, none⟩ (.slice none 0 0)).setCell ⟨w.heap.size + 1 + 1, 6, none⟩ (.int .i64 1) = W9 at *
        have e0 := cellsAt Ez.out 0
        have e1 := cellsAt Ez.out 1
        have e2 := cellsAt Ez.out 2
        have e3 := cellsAt Ez.out 3
        have e4 := cellsAt Ez.out 4
        have e5 := cellsAt Ez.out 5
        have e6 := cellsAt Ez.out 6
        simp at e0 e1 e2 e3 e4 e5 e6
        refine bodyPost_ret (v := .agg #[.int .i64 0, .slice none 0 0, .slice none 0 0, .bool false, .int .i64 0, .slice none 0 0, .int .i64 1]) (by simp [results, Try.results28, go_sem, e0, e1, e2, e3, e4, e5, e6]) rfl ?_
        exact ⟨⟨_, _, _, zA, _, rfl, zA_at _, likeA_self _, Row.none_⟩, BE.out⟩
      | true =>
      have HOK := Lib.hid (show (hasA a (N : Int) && rightI ⟨j0, j1, j2, j3, j4, j5, j6, j7, j8, j9, j10⟩) = true by rw [HHA.out, HRI2.out]; rfl)
      obtain ⟨b1, o1, rfl⟩ := held_some KV.out (by rw [HLH.out]; omega)
      obtain ⟨b0, o0, rfl⟩ := got_some KV.out (by rw [HLG.out]; omega)
      obtain ⟨g, hg⟩ : ∃ g, a.got[N]? = some g := ⟨_, List.getElem?_eq_getElem (by rw [HLG.out]; exact hNl)⟩
      obtain ⟨x, hx⟩ : ∃ x, a.held[N]? = some x := ⟨_, List.getElem?_eq_getElem (by rw [HLH.out]; exact hNl)⟩
      obtain ⟨hbg, cg0⟩ := got_at KV.out hg
      have HG := Lib.hid (get_bangB hg)
      have HXB := Lib.hid (get_bangB hx)
      have hxl := HHL.out N x hx
      obtain ⟨hbh, ch0, hxa⟩ := held_at KV.out hx
      have HX := Lib.hid hx
      clear hg hx
      obtain ⟨⟨Ax, cx, hxe, -, -⟩, -, -⟩ := hxa
      obtain ⟨xr, xl⟩ := x
      simp only at hxe hxl ch0
      subst hxe
      cases g with
      | true =>
        by_cases h16 : xl.length = 16
        · have t2 : ((xl.length : Int) == 16) = true := by simp; omega
          have t3 : decide ((xl.length : Int) = 16) = true := by simp; omega
          have HOF := HO.out
          unfold ofer at HOF
          rw [if_pos HOK.out, Int.toNat_natCast, if_pos HG.out, HXB.out, if_pos (by show 16 ≤ xl.length; omega)] at HOF
          subst HOF
          go_wp2_with fail
          have Ez := Lib.hid (set7 Blz.out (.int .i64 0) (.slice none 0 0) (.slice none 0 0) (.bool false) (.int .i64 0) (.slice none 0 0) (.int .i64 3))
          have BE := Lib.hid (bel7 BB10.out (g := w.heap.size + 1 + 1) (by omega) (.int .i64 0) (.slice none 0 0) (.slice none 0 0) (.bool false) (.int .i64 0) (.slice none 0 0) (.int .i64 3))
          have KB7 := Lib.hid (fun kq (hk : kq ≠ w.heap.size + 1 + 1) => blk7 w8 (w.heap.size + 1 + 1) kq hk (.int .i64 0) (.slice none 0 0) (.slice none 0 0) (.bool false) (.int .i64 0) (.slice none 0 0) (.int .i64 3))
          clear zs fs xs0 xs1 xs2 zt ft xt0 xt1 xt2 xt3 xt4 xt5 xt6 xt7 xt8 xt9 xt10 zz fz xz0 xz1 xz2 xz3 xz4 xz5 xz6
          generalize (((((((w8).setCell ⟨w.heap.size + 1 + 1, 0, none⟩ (.int .i64 0)).setCell ⟨w.heap.size + 1 + 1, 1, none⟩ (.slice none 0 0)).setCell ⟨w.heap.size + 1 + 1, 2, none⟩ (.slice none 0 0)).setCell ⟨w.heap.size + 1 + 1, 3, none⟩ (.bool false)).setCell ⟨w.heap.size + 1 + 1, 4, none⟩ (.int .i64 0)).setCell ⟨w.heap.size + 1 + 1, 5, none⟩ (.slice none 0 0)).setCell ⟨w.heap.size + 1 + 1, 6, none⟩ (.int .i64 3) = W9 at *
          have e0 := cellsAt Ez.out 0
          have e1 := cellsAt Ez.out 1
          have e2 := cellsAt Ez.out 2
          have e3 := cellsAt Ez.out 3
          have e4 := cellsAt Ez.out 4
          have e5 := cellsAt Ez.out 5
          have e6 := cellsAt Ez.out 6
          simp at e0 e1 e2 e3 e4 e5 e6
          refine bodyPost_ret (v := .agg #[.int .i64 0, .slice none 0 0, .slice none 0 0, .bool false, .int .i64 0, .slice none 0 0, .int .i64 3]) (by simp [results, Try.results28, go_sem, e0, e1, e2, e3, e4, e5, e6]) rfl ?_
          exact ⟨⟨_, _, _, zA, _, rfl, zA_at _, likeA_self _, Row.none_⟩, BE.out⟩
        · have t2 : ((xl.length : Int) == 16) = false := by simp; omega
          have t3 : decide ((xl.length : Int) = 16) = false := by simp; omega
          have HOF := HO.out
          unfold ofer at HOF
          rw [if_pos HOK.out, Int.toNat_natCast, if_pos HG.out, HXB.out, if_neg (by show ¬ 16 ≤ xl.length; omega)] at HOF
          subst HOF
          go_wp2_with fail
          have HBC := HBH.out N rfl (by rw [HLG.out]; exact hNl) HRA.out _ _ KV.out
          refine HBC.mono ?_
          rintro e w11 ⟨⟨vb, ab, rfl, hab, hlk⟩, hb12⟩
          have HLE := Lib.hid (hb12.size)
          have HAB := Lib.hid hab
          have HLK := Lib.hid hlk
          clear hab hlk HBC
          clear zs fs xs0 xs1 xs2 zt ft xt0 xt1 xt2 xt3 xt4 xt5 xt6 xt7 xt8 xt9 xt10 zz fz xz0 xz1 xz2 xz3 xz4 xz5 xz6
          have hze : w.heap.size + 1 + 1 < w8.heap.size := blk_lt Blz.out
          have Z := Lib.hid (heap_below Bls.out hb12)
          clear Bls
          have Bls := Z
          clear Z
          have Z := Lib.hid (heap_below Blt.out hb12)
          clear Blt
          have Blt := Z
          clear Z
          have Z := Lib.hid (heap_below Blz.out hb12)
          clear Blz
          have Blz := Z
          clear Z
          have Z := Lib.hid (AlAt.below KV.out hb12)
          clear KV
          have KV := Z
          clear Z
          have BB13 := Lib.hid (bThen BB10.out hb12)
          clear hb12
          have HABat := HAB.out w11 (fun _ _ _ => rfl)
          obtain ⟨D1, d1, D2, d2, rfl⟩ := al_form5 HABat
          have zs := blk_lt Bls.out
          have xs0 := cellsAt Bls.out 0
          have xs1 := cellsAt Bls.out 1
          have xs2 := cellsAt Bls.out 2
          have fs := frozAt Bls.out
          simp at xs0 xs1 xs2
          have zt := blk_lt Blt.out
          have xt0 := cellsAt Blt.out 0
          have xt1 := cellsAt Blt.out 1
          have xt2 := cellsAt Blt.out 2
          have xt3 := cellsAt Blt.out 3
          have xt4 := cellsAt Blt.out 4
          have xt5 := cellsAt Blt.out 5
          have xt6 := cellsAt Blt.out 6
          have xt7 := cellsAt Blt.out 7
          have xt8 := cellsAt Blt.out 8
          have xt9 := cellsAt Blt.out 9
          have xt10 := cellsAt Blt.out 10
          have ft := frozAt Blt.out
          simp at xt0 xt1 xt2 xt3 xt4 xt5 xt6 xt7 xt8 xt9 xt10
          have zz := blk_lt Blz.out
          have xz0 := cellsAt Blz.out 0
          have xz1 := cellsAt Blz.out 1
          have xz2 := cellsAt Blz.out 2
          have xz3 := cellsAt Blz.out 3
          have xz4 := cellsAt Blz.out 4
          have xz5 := cellsAt Blz.out 5
          have xz6 := cellsAt Blz.out 6
          have fz := frozAt Blz.out
          simp at xz0 xz1 xz2 xz3 xz4 xz5 xz6
          go_wp2_with fail
          clear HABat
          have Ez := Lib.hid (set7 Blz.out (.int .i64 ab.n) (.slice D1 ab.got.length d1) (.slice D2 ab.held.length d2) (.bool false) (.int .i64 0) (.slice none 0 0) (.int .i64 0))
          have BE := Lib.hid (bel7 BB13.out (g := w.heap.size + 1 + 1) (by omega) (.int .i64 ab.n) (.slice D1 ab.got.length d1) (.slice D2 ab.held.length d2) (.bool false) (.int .i64 0) (.slice none 0 0) (.int .i64 0))
          have KB7 := Lib.hid (fun kq (hk : kq ≠ w.heap.size + 1 + 1) => blk7 w11 (w.heap.size + 1 + 1) kq hk (.int .i64 ab.n) (.slice D1 ab.got.length d1) (.slice D2 ab.held.length d2) (.bool false) (.int .i64 0) (.slice none 0 0) (.int .i64 0))
          clear zs fs xs0 xs1 xs2 zt ft xt0 xt1 xt2 xt3 xt4 xt5 xt6 xt7 xt8 xt9 xt10 zz fz xz0 xz1 xz2 xz3 xz4 xz5 xz6
          generalize (((((((w11).setCell ⟨w.heap.size + 1 + 1, 0, none⟩ (.int .i64 ab.n)).setCell ⟨w.heap.size + 1 + 1, 1, none⟩ (.slice D1 ab.got.length d1)).setCell ⟨w.heap.size + 1 + 1, 2, none⟩ (.slice D2 ab.held.length d2)).setCell ⟨w.heap.size + 1 + 1, 3, none⟩ (.bool false)).setCell ⟨w.heap.size + 1 + 1, 4, none⟩ (.int .i64 0)).setCell ⟨w.heap.size + 1 + 1, 5, none⟩ (.slice none 0 0)).setCell ⟨w.heap.size + 1 + 1, 6, none⟩ (.int .i64 0) = W9 at *
          have e0 := cellsAt Ez.out 0
          have e1 := cellsAt Ez.out 1
          have e2 := cellsAt Ez.out 2
          have e3 := cellsAt Ez.out 3
          have e4 := cellsAt Ez.out 4
          have e5 := cellsAt Ez.out 5
          have e6 := cellsAt Ez.out 6
          simp at e0 e1 e2 e3 e4 e5 e6
          refine bodyPost_ret (v := .agg #[.int .i64 ab.n, .slice D1 ab.got.length d1, .slice D2 ab.held.length d2, .bool false, .int .i64 0, .slice none 0 0, .int .i64 0]) (by simp [results, Try.results28, go_sem, e0, e1, e2, e3, e4, e5, e6]) rfl ?_
          refine ⟨⟨_, _, _, ab, _, rfl, HAB.out _ (fun b hb1 hb2 => KB7.out b (by omega)), ?_, Row.none_⟩, BE.out⟩
          have := HLK.out
          unfold beA at this
          rw [if_pos HG.out, HXB.out] at this
          exact this
      | false =>
        by_cases hk4 : j0 = 4
        · subst hk4
          by_cases hst : a.n ≠ 0 ∧ a.n ≠ j5
          · obtain ⟨hs1, hs2⟩ := hst
            have u1 : (a.n == 0) = false := by simpa using hs1
            have u2 : (a.n == j5) = false := by simpa using hs2
            have u3 : decide (a.n = 0) = false := by simpa using hs1
            have u4 : decide (a.n = j5) = false := by simpa using hs2
            have u5 : (a.n != 0) = true := by simpa using hs1
            have u6 : (a.n != j5) = true := by simpa using hs2
            have u7 : (!decide (a.n = 0)) = true := by simpa using hs1
            have u8 : (!decide (a.n = j5)) = true := by simpa using hs2
            have HOF := HO.out
            unfold ofer at HOF
            rw [if_pos HOK.out, Int.toNat_natCast, if_neg (by rw [HG.out]; simp), if_pos rfl, if_pos ⟨hs1, hs2⟩] at HOF
            subst HOF
            go_wp2_with fail
            have Ez := Lib.hid (set7 Blz.out (.int .i64 0) (.slice none 0 0) (.slice none 0 0) (.bool false) (.int .i64 0) (.slice none 0 0) (.int .i64 190))
            have BE := Lib.hid (bel7 BB10.out (g := w.heap.size + 1 + 1) (by omega) (.int .i64 0) (.slice none 0 0) (.slice none 0 0) (.bool false) (.int .i64 0) (.slice none 0 0) (.int .i64 190))
            have KB7 := Lib.hid (fun kq (hk : kq ≠ w.heap.size + 1 + 1) => blk7 w8 (w.heap.size + 1 + 1) kq hk (.int .i64 0) (.slice none 0 0) (.slice none 0 0) (.bool false) (.int .i64 0) (.slice none 0 0) (.int .i64 190))
            clear zs fs xs0 xs1 xs2 zt ft xt0 xt1 xt2 xt3 xt4 xt5 xt6 xt7 xt8 xt9 xt10 zz fz xz0 xz1 xz2 xz3 xz4 xz5 xz6
            generalize (((((((w8).setCell ⟨w.heap.size + 1 + 1, 0, none⟩ (.int .i64 0)).setCell ⟨w.heap.size + 1 + 1, 1, none⟩ (.slice none 0 0)).setCell ⟨w.heap.size + 1 + 1, 2, none⟩ (.slice none 0 0)).setCell ⟨w.heap.size + 1 + 1, 3, none⟩ (.bool false)).setCell ⟨w.heap.size + 1 + 1, 4, none⟩ (.int .i64 0)).setCell ⟨w.heap.size + 1 + 1, 5, none⟩ (.slice none 0 0)).setCell ⟨w.heap.size + 1 + 1, 6, none⟩ (.int .i64 190) = W9 at *
            have e0 := cellsAt Ez.out 0
            have e1 := cellsAt Ez.out 1
            have e2 := cellsAt Ez.out 2
            have e3 := cellsAt Ez.out 3
            have e4 := cellsAt Ez.out 4
            have e5 := cellsAt Ez.out 5
            have e6 := cellsAt Ez.out 6
            simp at e0 e1 e2 e3 e4 e5 e6
            refine bodyPost_ret (v := .agg #[.int .i64 0, .slice none 0 0, .slice none 0 0, .bool false, .int .i64 0, .slice none 0 0, .int .i64 190]) (by simp [results, Try.results28, go_sem, e0, e1, e2, e3, e4, e5, e6]) rfl ?_
            exact ⟨⟨_, _, _, zA, _, rfl, zA_at _, likeA_self _, Row.none_⟩, BE.out⟩
          · have HST := Lib.hid hst
            go_upto_region 9 with fail
            go_cut [67] (fun v W => v = .bool false ∧ w8 = W)
            case first =>
              by_cases hs1 : a.n = 0
              · have u1 : (a.n == 0) = true := by simpa using hs1
                have u3 : decide (a.n = 0) = true := by simpa using hs1
                have u5 : (a.n != 0) = false := by simpa using hs1
                have u7 : (!decide (a.n = 0)) = false := by simpa using hs1
                clear hs1
                go_wp2_with fail
                go_meet
                exact ⟨by first | rfl | simp | simp [*], rfl⟩
              · have hs2 : a.n = j5 := by by_cases h : a.n = j5; exact h; exact absurd ⟨hs1, h⟩ hst
                have u1 : (a.n == 0) = false := by simpa using hs1
                have u2 : (a.n == j5) = true := by simpa using hs2
                have u3 : decide (a.n = 0) = false := by simpa using hs1
                have u4 : decide (a.n = j5) = true := by simpa using hs2
                have u5 : (a.n != 0) = true := by simpa using hs1
                have u6 : (a.n != j5) = false := by simpa using hs2
                have u7 : (!decide (a.n = 0)) = true := by simpa using hs1
                have u8 : (!decide (a.n = j5)) = false := by simpa using hs2
                clear hs2
                go_wp2_with fail
                go_meet
                exact ⟨by first | rfl | simp | simp [*], rfl⟩
            case rest =>
              obtain ⟨rfl, rfl⟩ := hcut
              clear hst
              go_wp2_with fail
              have HBC := HBH.out N rfl (by rw [HLG.out]; exact hNl) HRA.out _ _ KV.out
              refine HBC.mono ?_
              rintro e w11 ⟨⟨vb, ab, rfl, hab, hlk⟩, hb12⟩
              have HLE := Lib.hid (hb12.size)
              have HAB := Lib.hid hab
              have HLK := Lib.hid hlk
              clear hab hlk HBC
              clear zs fs xs0 xs1 xs2 zt ft xt0 xt1 xt2 xt3 xt4 xt5 xt6 xt7 xt8 xt9 xt10 zz fz xz0 xz1 xz2 xz3 xz4 xz5 xz6
              have hze : w.heap.size + 1 + 1 < w8.heap.size := blk_lt Blz.out
              have Z := Lib.hid (heap_below Bls.out hb12)
              clear Bls
              have Bls := Z
              clear Z
              have Z := Lib.hid (heap_below Blt.out hb12)
              clear Blt
              have Blt := Z
              clear Z
              have Z := Lib.hid (heap_below Blz.out hb12)
              clear Blz
              have Blz := Z
              clear Z
              have Z := Lib.hid (AlAt.below KV.out hb12)
              clear KV
              have KV := Z
              clear Z
              have BB13 := Lib.hid (bThen BB10.out hb12)
              clear hb12
              have HABat := HAB.out w11 (fun _ _ _ => rfl)
              obtain ⟨D1, d1, D2, d2, rfl⟩ := al_form5 HABat
              have zs := blk_lt Bls.out
              have xs0 := cellsAt Bls.out 0
              have xs1 := cellsAt Bls.out 1
              have xs2 := cellsAt Bls.out 2
              have fs := frozAt Bls.out
              simp at xs0 xs1 xs2
              have zt := blk_lt Blt.out
              have xt0 := cellsAt Blt.out 0
              have xt1 := cellsAt Blt.out 1
              have xt2 := cellsAt Blt.out 2
              have xt3 := cellsAt Blt.out 3
              have xt4 := cellsAt Blt.out 4
              have xt5 := cellsAt Blt.out 5
              have xt6 := cellsAt Blt.out 6
              have xt7 := cellsAt Blt.out 7
              have xt8 := cellsAt Blt.out 8
              have xt9 := cellsAt Blt.out 9
              have xt10 := cellsAt Blt.out 10
              have ft := frozAt Blt.out
              simp at xt0 xt1 xt2 xt3 xt4 xt5 xt6 xt7 xt8 xt9 xt10
              have zz := blk_lt Blz.out
              have xz0 := cellsAt Blz.out 0
              have xz1 := cellsAt Blz.out 1
              have xz2 := cellsAt Blz.out 2
              have xz3 := cellsAt Blz.out 3
              have xz4 := cellsAt Blz.out 4
              have xz5 := cellsAt Blz.out 5
              have xz6 := cellsAt Blz.out 6
              have fz := frozAt Blz.out
              simp at xz0 xz1 xz2 xz3 xz4 xz5 xz6
              have HLK2 := HLK.out
              unfold beA at HLK2
              rw [if_neg (by rw [HG.out]; simp)] at HLK2
              have HBA := Lib.hid HLK2
              have hgl : ab.got.length = lh := by have := HLK2.2.1; simp only at this; rw [this]; simpa using HLG.out
              have hhl : ab.held.length = lh := by have := HLK2.2.2.1; simp only at this; rw [this]; exact HLH.out
              clear HLK2
              have HGL := Lib.hid hgl
              have HHL2 := Lib.hid hhl
              rw [hgl, hhl] at HAB HABat ⊢
              obtain ⟨b3, o3, rfl⟩ := held_some HABat (by rw [hhl]; omega)
              obtain ⟨b2, o2, rfl⟩ := got_some HABat (by rw [hgl]; omega)
              have HL16 := Lib.hid (show ∀ (k : Nat) (x : Hl), ab.held[k]? = some x → x.l.length ≤ 16 from fun k x hx => by obtain ⟨y, hy⟩ : ∃ y, a.held[k]? = some y := ⟨_, List.getElem?_eq_getElem (by have := (List.getElem?_eq_some_iff.1 hx).1; rw [HLH.out]; rw [hhl] at this; exact this)⟩; rw [HBA.out.2.2.2 k y x hy hx]; exact HHL.out k y hy)
              clear HABat hgl hhl
              obtain ⟨i0, hi0', hz0, hz1, hz2⟩ := info_parts info_lt
              have HII := Lib.hid hi0'
              have HZ0 := Lib.hid hz0
              have HZ1 := Lib.hid hz1
              have HZ2 := Lib.hid hz2
              clear hi0' hz0 hz1 hz2
              go_wp2_with fail
              obtain ⟨W14, hW15⟩ : ∃ X, X = (w11).alloc (.cells #[.int .i64 ab.n, .slice (some ⟨b2, o2, none⟩) lh d1, .slice (some ⟨b3, o3, none⟩) lh d2] 26) := ⟨_, rfl⟩
              rw [← hW15]
              have hb16 : Below w11.heap.size w11 W14 := by rw [hW15]; exact bel_alloc (Below.refl _ _) _
              have Nx := Lib.hid (show W14.heap[w11.heap.size]? = some (.cells #[.int .i64 ab.n, .slice (some ⟨b2, o2, none⟩) lh d1, .slice (some ⟨b3, o3, none⟩) lh d2] 26 (0, 0)) by rw [hW15]; exact heap_at (w11) _ (w11.heap.size) (by simp))
              have hsx : W14.heap.size = w11.heap.size + 1 := by rw [hW15]; simp
              clear hW15
              have hbx := hb16
              have Z := Lib.hid (heap_below Bls.out hb16)
              clear Bls
              have Bls := Z
              clear Z
              have Z := Lib.hid (heap_below Blt.out hb16)
              clear Blt
              have Blt := Z
              clear Z
              have Z := Lib.hid (heap_below Blz.out hb16)
              clear Blz
              have Blz := Z
              clear Z
              have Z := Lib.hid (AlAt.below KV.out hb16)
              clear KV
              have KV := Z
              clear Z
              have BB17 := Lib.hid (bThen BB13.out hb16)
              clear hb16
              have Blx := Nx
              clear Nx
              have HSX := Lib.hid hsx
              clear hsx
              have hW0 := Lib.hid (show w.heap.size + 1 + 1 < W14.heap.size by have := blk_lt Blz.out; exact this)
              have BX := Lib.hid (HAB.out W14 (fun b hb1 hb2 => hbx.block b hb2))
              have BXW := BX
              have OE0 := Lib.hid (own_empty W14 W14.heap.size 49 12 (Nat.le_refl _))
              clear zs fs xs0 xs1 xs2 zt ft xt0 xt1 xt2 xt3 xt4 xt5 xt6 xt7 xt8 xt9 xt10 zz fz xz0 xz1 xz2 xz3 xz4 xz5 xz6
              go_loopw [8, 77] (fun u j wr => RfRel ab ab.got W14 u j wr) (fun _ j _ => lh - (intOf j).toNat)
              case atStart => exact ⟨0, Nat.zero_le _, rfl, fun j x h => absurd h (Nat.not_lt_zero _), by rw [← HSX.out]; simpa [lateTo] using OE0.out, bel_alloc (Below.refl _ _) _⟩
              case round =>
                obtain ⟨k, hk, rfl, hall, hown, hbel⟩ := hrel
                rw [HGL.out] at hk
                have HO2 := Lib.hid hown
                have HALL := Lib.hid hall
                have hbw := Lib.hid hbel
                clear hown hall
                have hTL := lateTo_len HL16.out k (by rw [HHL2.out]; exact hk)
                have Z := Lib.hid (heap_below Bls.out hbel)
                clear Bls
                have Bls := Z
                clear Z
                have Z := Lib.hid (heap_below Blt.out hbel)
                clear Blt
                have Blt := Z
                clear Z
                have Z := Lib.hid (heap_below Blz.out hbel)
                clear Blz
                have Blz := Z
                clear Z
                have Z := Lib.hid (heap_below Blx.out hbel)
                clear Blx
                have Blx := Z
                clear Z
                have Z := Lib.hid (AlAt.below KV.out hbel)
                clear KV
                have KV := Z
                clear Z
                have Z := Lib.hid (AlAt.below BX.out hbel)
                clear BX
                have BX := Z
                clear Z
                have BB18 := Lib.hid (bThen BB17.out hbel)
                clear hbel
                by_cases hlt : k < lh
                · obtain ⟨gk, hgk⟩ : ∃ x, ab.got[k]? = some x := ⟨_, List.getElem?_eq_getElem (by rw [HGL.out]; exact hlt)⟩
                  obtain ⟨hbg2, cg2⟩ := got_at BX.out hgk
                  have HGK := Lib.hid hgk
                  clear hgk
                  obtain ⟨y, hy⟩ : ∃ y, ab.held[k]? = some y := ⟨_, List.getElem?_eq_getElem (by rw [HHL2.out]; exact hlt)⟩
                  obtain ⟨hbh2, ch2, hya⟩ := held_at BX.out hy
                  have hyl : y.l.length ≤ 16 := HL16.out k y hy
                  have HY := Lib.hid hy
                  obtain ⟨⟨Ay, cy, hye, -, -⟩, -, -⟩ := hya
                  clear hy
                  obtain ⟨yr, yl⟩ := y
                  simp only at hye hyl
                  subst hye
                  simp only at ch2
                  have hk0 : (0 : Int) ≤ (k : Int) := by omega
                  have hk1 : (k : Int) < (lh : Int) := by omega
                  have zs := blk_lt Bls.out
                  have xs0 := cellsAt Bls.out 0
                  have xs1 := cellsAt Bls.out 1
                  have xs2 := cellsAt Bls.out 2
                  have fs := frozAt Bls.out
                  simp at xs0 xs1 xs2
                  have zt := blk_lt Blt.out
                  have xt0 := cellsAt Blt.out 0
                  have xt1 := cellsAt Blt.out 1
                  have xt2 := cellsAt Blt.out 2
                  have xt3 := cellsAt Blt.out 3
                  have xt4 := cellsAt Blt.out 4
                  have xt5 := cellsAt Blt.out 5
                  have xt6 := cellsAt Blt.out 6
                  have xt7 := cellsAt Blt.out 7
                  have xt8 := cellsAt Blt.out 8
                  have xt9 := cellsAt Blt.out 9
                  have xt10 := cellsAt Blt.out 10
                  have ft := frozAt Blt.out
                  simp at xt0 xt1 xt2 xt3 xt4 xt5 xt6 xt7 xt8 xt9 xt10
                  have zz := blk_lt Blz.out
                  have xz0 := cellsAt Blz.out 0
                  have xz1 := cellsAt Blz.out 1
                  have xz2 := cellsAt Blz.out 2
                  have xz3 := cellsAt Blz.out 3
                  have xz4 := cellsAt Blz.out 4
                  have xz5 := cellsAt Blz.out 5
                  have xz6 := cellsAt Blz.out 6
                  have fz := frozAt Blz.out
                  simp at xz0 xz1 xz2 xz3 xz4 xz5 xz6
                  have zx := blk_lt Blx.out
                  have xx0 := cellsAt Blx.out 0
                  have xx1 := cellsAt Blx.out 1
                  have xx2 := cellsAt Blx.out 2
                  have fx := frozAt Blx.out
                  simp at xx0 xx1 xx2
                  cases gk with
                  | false =>
                    have HOF := HO.out
                    unfold ofer at HOF
                    rw [if_pos HOK.out, Int.toNat_natCast, if_neg (by rw [HG.out]; simp), if_pos rfl, if_neg HST.out, if_pos (by have h := HBA.out.2.1; simp only at h; rw [← h]; exact List.contains_iff_mem.2 (List.mem_of_getElem? HGK.out))] at HOF
                    subst HOF
                    go_wp2_with fail
                    have Ez := Lib.hid (set7 Blz.out (.int .i64 ab.n) (.slice (some ⟨b2, o2, none⟩) lh d1) (.slice (some ⟨b3, o3, none⟩) lh d2) (.bool false) (.int .i64 0) (.slice none 0 0) (.int .i64 0))
                    have BE := Lib.hid (bel7 BB18.out (g := w.heap.size + 1 + 1) (by omega) (.int .i64 ab.n) (.slice (some ⟨b2, o2, none⟩) lh d1) (.slice (some ⟨b3, o3, none⟩) lh d2) (.bool false) (.int .i64 0) (.slice none 0 0) (.int .i64 0))
                    have KB7 := Lib.hid (fun kq (hk : kq ≠ w.heap.size + 1 + 1) => blk7 wr (w.heap.size + 1 + 1) kq hk (.int .i64 ab.n) (.slice (some ⟨b2, o2, none⟩) lh d1) (.slice (some ⟨b3, o3, none⟩) lh d2) (.bool false) (.int .i64 0) (.slice none 0 0) (.int .i64 0))
                    clear zs fs xs0 xs1 xs2 zt ft xt0 xt1 xt2 xt3 xt4 xt5 xt6 xt7 xt8 xt9 xt10 zz fz xz0 xz1 xz2 xz3 xz4 xz5 xz6 zx fx xx0 xx1 xx2
                    generalize (((((((wr).setCell ⟨w.heap.size + 1 + 1, 0, none⟩ (.int .i64 ab.n)).setCell ⟨w.heap.size + 1 + 1, 1, none⟩ (.slice (some ⟨b2, o2, none⟩) lh d1)).setCell ⟨w.heap.size + 1 + 1, 2, none⟩ (.slice (some ⟨b3, o3, none⟩) lh d2)).setCell ⟨w.heap.size + 1 + 1, 3, none⟩ (.bool false)).setCell ⟨w.heap.size + 1 + 1, 4, none⟩ (.int .i64 0)).setCell ⟨w.heap.size + 1 + 1, 5, none⟩ (.slice none 0 0)).setCell ⟨w.heap.size + 1 + 1, 6, none⟩ (.int .i64 0) = W9 at *
                    have e0 := cellsAt Ez.out 0
                    have e1 := cellsAt Ez.out 1
                    have e2 := cellsAt Ez.out 2
                    have e3 := cellsAt Ez.out 3
                    have e4 := cellsAt Ez.out 4
                    have e5 := cellsAt Ez.out 5
                    have e6 := cellsAt Ez.out 6
                    simp at e0 e1 e2 e3 e4 e5 e6
                    refine bodyPost_ret (v := .agg #[.int .i64 ab.n, .slice (some ⟨b2, o2, none⟩) lh d1, .slice (some ⟨b3, o3, none⟩) lh d2, .bool false, .int .i64 0, .slice none 0 0, .int .i64 0]) (by simp [results, Try.results28, go_sem, e0, e1, e2, e3, e4, e5, e6]) rfl ?_
                    refine ⟨⟨_, _, _, ab, _, rfl, ?_, HBA.out, Row.none_⟩, BE.out⟩
                    have := HAB.out W9 (fun b hb1 hb2 => (KB7.out b (by omega)).trans ((hbw.out.block b (by have := hbx.size; omega)).trans (hbx.block b hb2)))
                    exact this
                  | true =>
                    go_wp2_with fail
                    clear zs fs xs0 xs1 xs2 zt ft xt0 xt1 xt2 xt3 xt4 xt5 xt6 xt7 xt8 xt9 xt10 zz fz xz0 xz1 xz2 xz3 xz4 xz5 xz6 zx fx xx0 xx1 xx2
                    clear hbg2 cg2
                    go_loopw [8, 92] (fun u j wr2 => RiRl ab k yl W14 u j wr2) (fun _ j _ => yl.length - (intOf j).toNat)
                    case atStart => exact ⟨0, Nat.zero_le _, rfl, by simpa [lateL] using HO2.out, hbw.out⟩
                    case round =>
                      obtain ⟨j, hj, rfl, hown, hbel⟩ := hrel
                      have HB2 := Lib.hid hbel
                      have HO3 := Lib.hid hown
                      clear hbel hown
                      clear hbh2 ch2
                      have RY2 := Lib.hid (held_of (BXW.out.below HB2.out) HY.out)
                      by_cases hlt2 : j < yl.length
                      · obtain ⟨z, hz⟩ : ∃ z, yl[j]? = some z := ⟨_, List.getElem?_eq_getElem hlt2⟩
                        obtain ⟨b', o', c', e', hc', hb', hX⟩ := RY2.out.1.at_ hz
                        simp only at e'
                        injection e' with e1 _ e3
                        subst e1 e3
                        have c0 := hX 0 _ rfl
                        have c1 := hX 1 _ rfl
                        have c2 := hX 2 _ rfl
                        have c3 := hX 3 _ rfl
                        have c4 := hX 4 _ rfl
                        have c5 := hX 5 _ rfl
                        have c6 := hX 6 _ rfl
                        have c7 := hX 7 _ rfl
                        have c8 := hX 8 _ rfl
                        have c9 := hX 9 _ rfl
                        have c10 := hX 10 _ rfl
                        have HIz := Lib.hid hz
                        clear hX hz
                        obtain ⟨y0, y1, y2, y3, y4, y5, y6, y7, y8, y9, y10⟩ := z
                        simp only [Nat.add_zero] at c0 c1 c2 c3 c4 c5 c6 c7 c8 c9 c10
                        go_upto_region 21 with fail
                        obtain ⟨W4, hW4⟩ : ∃ W4, W4 = wr.alloc (.cells #[.int .i64 y0, .string y1, .int .i64 y2, .int .i64 y3, .int .i64 y4, .int .i64 y5, .int .i64 y6, .int .i64 y7, .string y8, .int .i64 y9, .int .i64 y10] 43) := ⟨_, rfl⟩
                        rw [← hW4]
                        have X4 := Lib.hid (show W4.heap[wr.heap.size]? = some (.cells #[.int .i64 y0, .string y1, .int .i64 y2, .int .i64 y3, .int .i64 y4, .int .i64 y5, .int .i64 y6, .int .i64 y7, .string y8, .int .i64 y9, .int .i64 y10] 43 (0, 0)) by rw [hW4]; exact heap_at _ _ _ rfl)
                        have O4 := Lib.hid (show W4.ownsRow W14.heap.size 49 12 u8 ((lateTo ab.held k).length + j) ((lateTo ab.held k).flatMap Lt.cs ++ (lateL k (yl.take j)).flatMap Lt.cs) by rw [hW4]; exact HO3.out.alloc _)
                        have B4 := Lib.hid (show Below W14.heap.size W14 W4 by rw [hW4]; exact bel_alloc HB2.out _)
                        clear hW4 c0 c1 c2 c3 c4 c5 c6 c7 c8 c9 c10
                        clear HB2 HO3
                        obtain ⟨Au, cu, rfl⟩ := own_slice O4.out
                        have xz := blk_lt X4.out
                        have q0 := cellsAt X4.out 0
                        have q1 := cellsAt X4.out 1
                        have q2 := cellsAt X4.out 2
                        have q3 := cellsAt X4.out 3
                        have q4 := cellsAt X4.out 4
                        have q5 := cellsAt X4.out 5
                        have q6 := cellsAt X4.out 6
                        have q7 := cellsAt X4.out 7
                        have q8 := cellsAt X4.out 8
                        have q9 := cellsAt X4.out 9
                        have q10 := cellsAt X4.out 10
                        simp at q0 q1 q2 q3 q4 q5 q6 q7 q8 q9 q10
                        go_wp2_with (at_builtin; refine wpList_push _ rfl _ _ 44 rfl W14.heap.size 49 i0 (ltV ⟨0, itZ⟩) 12 112 Try.underlying44 HII.out HZ0.out HZ1.out HZ2.out rfl (by decide) _ _ _ rfl O4.out #[.int .i64 k, .int .i64 y0, .string y1, .int .i64 y2, .int .i64 y3, .int .i64 y4, .int .i64 y5, .int .i64 y6, .int .i64 y7, .string y8, .int .i64 y9, .int .i64 y10] 49 rfl rfl (by intro u hu; simp at hu; rcases hu with rfl | rfl | rfl | rfl | rfl | rfl | rfl | rfl | rfl | rfl | rfl | rfl <;> rfl) (by unfold maxLen; omega) (by omega) B4.out.size ?_)
                        intro v5 W5 hown5 hb5 _
                        have O5 := Lib.hid hown5
                        have B5 := Lib.hid (B4.out.trans hb5)
                        clear hown5 hb5 X4 xz q0 q1 q2 q3 q4 q5 q6 q7 q8 q9 q10
                        go_wp2_with fail
                        go_roundw
                        case rel =>
                          refine ⟨j + 1, by omega, by go_num, ?_, B5.out⟩
                          have := O5.out
                          rw [List.take_add_one, HIz.out]
                          unfold lateL at this ⊢
                          rw [List.map_append, List.flatMap_append]
                          exact this
                        case measure => simp [intOf]; omega
                      · obtain rfl : j = yl.length := by omega
                        go_wp2_with fail
                        go_roundw
                        case rel =>
                          refine ⟨k + 1, by rw [HGL.out]; omega, by go_num, ?_, ?_, HB2.out⟩
                          · intro j2 x2 h1 h2
                            by_cases hj2 : j2 < k
                            · exact HALL.out j2 x2 hj2 h2
                            · obtain rfl : j2 = k := by omega
                              rw [HGK.out] at h2; injection h2 with h2; exact h2.symm
                          rw [lateTo_succ HY.out, List.length_append, lateL_len, List.flatMap_append]
                          have := HO3.out
                          rw [List.take_length] at this
                          exact this
                        case measure => simp [intOf]; omega
                · obtain rfl : k = lh := by omega
                  obtain ⟨Al, cl, rfl⟩ := own_slice HO2.out
                  have zs := blk_lt Bls.out
                  have xs0 := cellsAt Bls.out 0
                  have xs1 := cellsAt Bls.out 1
                  have xs2 := cellsAt Bls.out 2
                  have fs := frozAt Bls.out
                  simp at xs0 xs1 xs2
                  have zt := blk_lt Blt.out
                  have xt0 := cellsAt Blt.out 0
                  have xt1 := cellsAt Blt.out 1
                  have xt2 := cellsAt Blt.out 2
                  have xt3 := cellsAt Blt.out 3
                  have xt4 := cellsAt Blt.out 4
                  have xt5 := cellsAt Blt.out 5
                  have xt6 := cellsAt Blt.out 6
                  have xt7 := cellsAt Blt.out 7
                  have xt8 := cellsAt Blt.out 8
                  have xt9 := cellsAt Blt.out 9
                  have xt10 := cellsAt Blt.out 10
                  have ft := frozAt Blt.out
                  simp at xt0 xt1 xt2 xt3 xt4 xt5 xt6 xt7 xt8 xt9 xt10
                  have zz := blk_lt Blz.out
                  have xz0 := cellsAt Blz.out 0
                  have xz1 := cellsAt Blz.out 1
                  have xz2 := cellsAt Blz.out 2
                  have xz3 := cellsAt Blz.out 3
                  have xz4 := cellsAt Blz.out 4
                  have xz5 := cellsAt Blz.out 5
                  have xz6 := cellsAt Blz.out 6
                  have fz := frozAt Blz.out
                  simp at xz0 xz1 xz2 xz3 xz4 xz5 xz6
                  have zx := blk_lt Blx.out
                  have xx0 := cellsAt Blx.out 0
                  have xx1 := cellsAt Blx.out 1
                  have xx2 := cellsAt Blx.out 2
                  have fx := frozAt Blx.out
                  simp at xx0 xx1 xx2
                  go_wp2_with fail
                  refine (ranew_own k _ (by omega) (by omega)).mono ?_
                  rintro e w19 ⟨⟨vn, rfl, hvn⟩, hb20⟩
                  have HVN := Lib.hid hvn
                  clear hvn
                  clear zs fs xs0 xs1 xs2 zt ft xt0 xt1 xt2 xt3 xt4 xt5 xt6 xt7 xt8 xt9 xt10 zz fz xz0 xz1 xz2 xz3 xz4 xz5 xz6 zx fx xx0 xx1 xx2
                  have hwn : w.heap.size + 1 + 1 < wr.heap.size := blk_lt Blz.out
                  have Z := Lib.hid (heap_below Bls.out hb20)
                  clear Bls
                  have Bls := Z
                  clear Z
                  have Z := Lib.hid (heap_below Blt.out hb20)
                  clear Blt
                  have Blt := Z
                  clear Z
                  have Z := Lib.hid (heap_below Blz.out hb20)
                  clear Blz
                  have Blz := Z
                  clear Z
                  have Z := Lib.hid (heap_below Blx.out hb20)
                  clear Blx
                  have Blx := Z
                  clear Z
                  have Z := Lib.hid (AlAt.below KV.out hb20)
                  clear KV
                  have KV := Z
                  clear Z
                  have Z := Lib.hid (AlAt.below BX.out hb20)
                  clear BX
                  have BX := Z
                  clear Z
                  have Z := Lib.hid (own_below HO2.out hb20)
                  clear HO2
                  have HO2 := Z
                  clear Z
                  have BB21 := Lib.hid (bThen BB18.out hb20)
                  clear hb20
                  obtain ⟨E1, s1, E2, s2, rfl⟩ := al_form5 (HVN.out w19 (fun _ _ _ => rfl))
                  have zs := blk_lt Bls.out
                  have xs0 := cellsAt Bls.out 0
                  have xs1 := cellsAt Bls.out 1
                  have xs2 := cellsAt Bls.out 2
                  have fs := frozAt Bls.out
                  simp at xs0 xs1 xs2
                  have zt := blk_lt Blt.out
                  have xt0 := cellsAt Blt.out 0
                  have xt1 := cellsAt Blt.out 1
                  have xt2 := cellsAt Blt.out 2
                  have xt3 := cellsAt Blt.out 3
                  have xt4 := cellsAt Blt.out 4
                  have xt5 := cellsAt Blt.out 5
                  have xt6 := cellsAt Blt.out 6
                  have xt7 := cellsAt Blt.out 7
                  have xt8 := cellsAt Blt.out 8
                  have xt9 := cellsAt Blt.out 9
                  have xt10 := cellsAt Blt.out 10
                  have ft := frozAt Blt.out
                  simp at xt0 xt1 xt2 xt3 xt4 xt5 xt6 xt7 xt8 xt9 xt10
                  have zz := blk_lt Blz.out
                  have xz0 := cellsAt Blz.out 0
                  have xz1 := cellsAt Blz.out 1
                  have xz2 := cellsAt Blz.out 2
                  have xz3 := cellsAt Blz.out 3
                  have xz4 := cellsAt Blz.out 4
                  have xz5 := cellsAt Blz.out 5
                  have xz6 := cellsAt Blz.out 6
                  have fz := frozAt Blz.out
                  simp at xz0 xz1 xz2 xz3 xz4 xz5 xz6
                  have zx := blk_lt Blx.out
                  have xx0 := cellsAt Blx.out 0
                  have xx1 := cellsAt Blx.out 1
                  have xx2 := cellsAt Blx.out 2
                  have fx := frozAt Blx.out
                  simp at xx0 xx1 xx2
                  go_upto_region 25 with fail
                  have hnw : w19.heap.size ≤ w19.heap.size := Nat.le_refl _
                  obtain ⟨W22, hW23⟩ : ∃ X, X = (w19).alloc (.cells #[.int .i64 (newA' k).n, .slice E1 (newA' k).got.length s1, .slice E2 (newA' k).held.length s2] 26) := ⟨_, rfl⟩
                  rw [← hW23]
                  have hb24 : Below w19.heap.size w19 W22 := by rw [hW23]; exact bel_alloc (Below.refl _ _) _
                  have Nn := Lib.hid (show W22.heap[w19.heap.size]? = some (.cells #[.int .i64 (newA' k).n, .slice E1 (newA' k).got.length s1, .slice E2 (newA' k).held.length s2] 26 (0, 0)) by rw [hW23]; exact heap_at (w19) _ (w19.heap.size) (by simp))
                  clear hW23
                  have hbn := hb24
                  have Z := Lib.hid (heap_below Bls.out hb24)
                  clear Bls
                  have Bls := Z
                  clear Z
                  have Z := Lib.hid (heap_below Blt.out hb24)
                  clear Blt
                  have Blt := Z
                  clear Z
                  have Z := Lib.hid (heap_below Blz.out hb24)
                  clear Blz
                  have Blz := Z
                  clear Z
                  have Z := Lib.hid (heap_below Blx.out hb24)
                  clear Blx
                  have Blx := Z
                  clear Z
                  have Z := Lib.hid (AlAt.below KV.out hb24)
                  clear KV
                  have KV := Z
                  clear Z
                  have Z := Lib.hid (AlAt.below BX.out hb24)
                  clear BX
                  have BX := Z
                  clear Z
                  have Z := Lib.hid (own_below HO2.out hb24)
                  clear HO2
                  have HO2 := Z
                  clear Z
                  have BB25 := Lib.hid (bThen BB21.out hb24)
                  clear hb24
                  have Bln := Nn
                  clear Nn
                  clear zs fs xs0 xs1 xs2 zt ft xt0 xt1 xt2 xt3 xt4 xt5 xt6 xt7 xt8 xt9 xt10 zz fz xz0 xz1 xz2 xz3 xz4 xz5 xz6 zx fx xx0 xx1 xx2
                  have zs := blk_lt Bls.out
                  have xs0 := cellsAt Bls.out 0
                  have xs1 := cellsAt Bls.out 1
                  have xs2 := cellsAt Bls.out 2
                  have fs := frozAt Bls.out
                  simp at xs0 xs1 xs2
                  have zt := blk_lt Blt.out
                  have xt0 := cellsAt Blt.out 0
                  have xt1 := cellsAt Blt.out 1
                  have xt2 := cellsAt Blt.out 2
                  have xt3 := cellsAt Blt.out 3
                  have xt4 := cellsAt Blt.out 4
                  have xt5 := cellsAt Blt.out 5
                  have xt6 := cellsAt Blt.out 6
                  have xt7 := cellsAt Blt.out 7
                  have xt8 := cellsAt Blt.out 8
                  have xt9 := cellsAt Blt.out 9
                  have xt10 := cellsAt Blt.out 10
                  have ft := frozAt Blt.out
                  simp at xt0 xt1 xt2 xt3 xt4 xt5 xt6 xt7 xt8 xt9 xt10
                  have zz := blk_lt Blz.out
                  have xz0 := cellsAt Blz.out 0
                  have xz1 := cellsAt Blz.out 1
                  have xz2 := cellsAt Blz.out 2
                  have xz3 := cellsAt Blz.out 3
                  have xz4 := cellsAt Blz.out 4
                  have xz5 := cellsAt Blz.out 5
                  have xz6 := cellsAt Blz.out 6
                  have fz := frozAt Blz.out
                  simp at xz0 xz1 xz2 xz3 xz4 xz5 xz6
                  have zx := blk_lt Blx.out
                  have xx0 := cellsAt Blx.out 0
                  have xx1 := cellsAt Blx.out 1
                  have xx2 := cellsAt Blx.out 2
                  have fx := frozAt Blx.out
                  simp at xx0 xx1 xx2
                  have zn := blk_lt Bln.out
                  have xn0 := cellsAt Bln.out 0
                  have xn1 := cellsAt Bln.out 1
                  have xn2 := cellsAt Bln.out 2
                  have fn := frozAt Bln.out
                  simp at xn0 xn1 xn2
                  have HOF := HO.out
                  unfold ofer at HOF
                  rw [if_pos HOK.out, Int.toNat_natCast, if_neg (by rw [HG.out]; simp), if_pos rfl, if_neg HST.out, if_neg (by have h := HBA.out.2.1; simp only at h; rw [← h, all_not ab.got (fun j x h => HALL.out j x (by have := (List.getElem?_eq_some_iff.1 h).1; rw [HGL.out] at this; exact this) h)]; simp)] at HOF
                  rw [HLG.out, HLH.out] at HOF
                  subst HOF
                  go_wp2_with fail
                  have Ez := Lib.hid (set7 Blz.out (.int .i64 (newA' k).n) (.slice E1 (newA' k).got.length s1) (.slice E2 (newA' k).held.length s2) (.bool false) (.int .i64 j5) (.slice Al (lateTo ab.held k).length cl) (.int .i64 0))
                  have BE := Lib.hid (bel7 BB25.out (g := w.heap.size + 1 + 1) (by omega) (.int .i64 (newA' k).n) (.slice E1 (newA' k).got.length s1) (.slice E2 (newA' k).held.length s2) (.bool false) (.int .i64 j5) (.slice Al (lateTo ab.held k).length cl) (.int .i64 0))
                  have KB7 := Lib.hid (fun kq (hk : kq ≠ w.heap.size + 1 + 1) => blk7 W22 (w.heap.size + 1 + 1) kq hk (.int .i64 (newA' k).n) (.slice E1 (newA' k).got.length s1) (.slice E2 (newA' k).held.length s2) (.bool false) (.int .i64 j5) (.slice Al (lateTo ab.held k).length cl) (.int .i64 0))
                  clear zs fs xs0 xs1 xs2 zt ft xt0 xt1 xt2 xt3 xt4 xt5 xt6 xt7 xt8 xt9 xt10 zz fz xz0 xz1 xz2 xz3 xz4 xz5 xz6 zx fx xx0 xx1 xx2 zn fn xn0 xn1 xn2
                  generalize (((((((W22).setCell ⟨w.heap.size + 1 + 1, 0, none⟩ (.int .i64 (newA' k).n)).setCell ⟨w.heap.size + 1 + 1, 1, none⟩ (.slice E1 (newA' k).got.length s1)).setCell ⟨w.heap.size + 1 + 1, 2, none⟩ (.slice E2 (newA' k).held.length s2)).setCell ⟨w.heap.size + 1 + 1, 3, none⟩ (.bool false)).setCell ⟨w.heap.size + 1 + 1, 4, none⟩ (.int .i64 j5)).setCell ⟨w.heap.size + 1 + 1, 5, none⟩ (.slice Al (lateTo ab.held k).length cl)).setCell ⟨w.heap.size + 1 + 1, 6, none⟩ (.int .i64 0) = W9 at *
                  have e0 := cellsAt Ez.out 0
                  have e1 := cellsAt Ez.out 1
                  have e2 := cellsAt Ez.out 2
                  have e3 := cellsAt Ez.out 3
                  have e4 := cellsAt Ez.out 4
                  have e5 := cellsAt Ez.out 5
                  have e6 := cellsAt Ez.out 6
                  simp at e0 e1 e2 e3 e4 e5 e6
                  refine bodyPost_ret (v := .agg #[.int .i64 (newA' k).n, .slice E1 (newA' k).got.length s1, .slice E2 (newA' k).held.length s2, .bool false, .int .i64 j5, .slice Al (lateTo ab.held k).length cl, .int .i64 0]) (by simp [results, Try.results28, go_sem, e0, e1, e2, e3, e4, e5, e6]) rfl ?_
                  refine ⟨⟨_, _, _, newA' k, _, rfl, HVN.out W9 (fun b hb1 hb2 => (KB7.out b (by omega)).trans (hbn.block b hb2)), likeA_self _, ?_⟩, BE.out⟩
                  have h2 := lateTo_like HBA.out k
                  simp only at h2
                  have h3 := Row.of_own (l := lateTo ab.held k) Lt.cs_len (own_keep HO2.out (fun j hj => KB7.out j (by have := (HO2.out.lt j hj).1; have := hW0.out; omega))) rfl
                  rw [h2] at h3
                  rw [h2]
                  exact h3
        · have t4 : (j0 == 4) = false := by simpa using hk4
          have t5 : decide (j0 = 4) = false := by simpa using hk4
          have HOF := HO.out
          unfold ofer at HOF
          rw [if_pos HOK.out, Int.toNat_natCast, if_neg (by rw [HG.out]; simp), if_neg (show ¬ j0 = 4 from hk4)] at HOF
          subst HOF
          go_wp2_with fail
          have Ez := Lib.hid (set7 Blz.out (.int .i64 a.n) (.slice (some ⟨b0, o0, none⟩) lh cg) (.slice (some ⟨b1, o1, none⟩) lh ch) (.bool true) (.int .i64 0) (.slice none 0 0) (.int .i64 0))
          have BE := Lib.hid (bel7 BB10.out (g := w.heap.size + 1 + 1) (by omega) (.int .i64 a.n) (.slice (some ⟨b0, o0, none⟩) lh cg) (.slice (some ⟨b1, o1, none⟩) lh ch) (.bool true) (.int .i64 0) (.slice none 0 0) (.int .i64 0))
          have KB7 := Lib.hid (fun kq (hk : kq ≠ w.heap.size + 1 + 1) => blk7 w8 (w.heap.size + 1 + 1) kq hk (.int .i64 a.n) (.slice (some ⟨b0, o0, none⟩) lh cg) (.slice (some ⟨b1, o1, none⟩) lh ch) (.bool true) (.int .i64 0) (.slice none 0 0) (.int .i64 0))
          clear zs fs xs0 xs1 xs2 zt ft xt0 xt1 xt2 xt3 xt4 xt5 xt6 xt7 xt8 xt9 xt10 zz fz xz0 xz1 xz2 xz3 xz4 xz5 xz6
          generalize (((((((w8).setCell ⟨w.heap.size + 1 + 1, 0, none⟩ (.int .i64 a.n)).setCell ⟨w.heap.size + 1 + 1, 1, none⟩ (.slice (some ⟨b0, o0, none⟩) lh cg)).setCell ⟨w.heap.size + 1 + 1, 2, none⟩ (.slice (some ⟨b1, o1, none⟩) lh ch)).setCell ⟨w.heap.size + 1 + 1, 3, none⟩ (.bool true)).setCell ⟨w.heap.size + 1 + 1, 4, none⟩ (.int .i64 0)).setCell ⟨w.heap.size + 1 + 1, 5, none⟩ (.slice none 0 0)).setCell ⟨w.heap.size + 1 + 1, 6, none⟩ (.int .i64 0) = W9 at *
          have e0 := cellsAt Ez.out 0
          have e1 := cellsAt Ez.out 1
          have e2 := cellsAt Ez.out 2
          have e3 := cellsAt Ez.out 3
          have e4 := cellsAt Ez.out 4
          have e5 := cellsAt Ez.out 5
          have e6 := cellsAt Ez.out 6
          simp at e0 e1 e2 e3 e4 e5 e6
          refine bodyPost_ret (v := .agg #[.int .i64 a.n, .slice (some ⟨b0, o0, none⟩) lh cg, .slice (some ⟨b1, o1, none⟩) lh ch, .bool true, .int .i64 0, .slice none 0 0, .int .i64 0]) (by simp [results, Try.results28, go_sem, e0, e1, e2, e3, e4, e5, e6]) rfl ?_
          refine ⟨⟨_, _, _, a, _, rfl, HV.out.below BE.out, likeA_self _, Row.none_⟩, BE.out⟩
end Go.Proofs.Ytenpgkkefielfaa
