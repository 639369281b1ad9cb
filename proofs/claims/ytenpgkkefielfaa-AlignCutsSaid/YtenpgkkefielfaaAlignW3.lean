/-
  WALKS of layer 18: the program's Right.
-/
import Derived.Test.YtenpgkkefielfaaAlignW2
import Derived.Deep.RegionLaw
import Derived.Deep.Cut
import Derived.Deep.RegionHeld3
namespace Go.Proofs.Ytenpgkkefielfaa
open Go.RowKit

def hAt (a : Aln) (i : Nat) : Bool := decide (a.held[i]!.l.length ≤ 16) && ((decide (a.held[i]!.l.length = 0) || a.got[i]!) && allI a.held[i]!.l)
def rightA (a : Aln) : Bool :=
  decide (1 ≤ a.got.length) && (decide (a.got.length ≤ 8) && (decide (a.held.length = a.got.length) && (decide (0 ≤ a.n) && (decide (a.n ≤ 1073741824) && ((a.got.contains true == decide (0 < a.n)) && (a.got.contains false && (List.range a.held.length).all (hAt a)))))))
theorem al_form {W : World} {v : Value} {a : Aln} (h : AlAt W v a) : ∃ Ag cg Ah ch, v = .agg #[.int .i64 a.n, .slice Ag a.got.length cg, .slice Ah a.held.length ch] ∧ Row bCs 1 W (.slice Ag a.got.length cg) a.got ∧ Row Hl.cs 1 W (.slice Ah a.held.length ch) a.held ∧ (∀ x ∈ a.held, x.At W) ∧ wfL a.n ∧ a.got.length ≤ maxLen ∧ a.held.length ≤ maxLen := by
  obtain ⟨vg, vh, rfl, hn, ⟨h1, h2⟩, h3, h4, h5⟩ := h
  obtain ⟨Ag, cg, rfl, r1⟩ := id h1
  obtain ⟨Ah, ch, rfl, r2⟩ := id h3
  exact ⟨Ag, cg, Ah, ch, rfl, h1, h3, h4, hn, h2, h5⟩
theorem keepA3 {W w' w'' : World} {ga : Nat} {v0 v1 v2 : Value} (hga : ga < W.heap.size) (h : Below W.heap.size W w' ∧ w'.cell? ⟨ga, 0, none⟩ = some v0 ∧ w'.cell? ⟨ga, 1, none⟩ = some v1 ∧ w'.cell? ⟨ga, 2, none⟩ = some v2) (hb : Below w'.heap.size w' w'') : Below W.heap.size W w'' ∧ w''.cell? ⟨ga, 0, none⟩ = some v0 ∧ w''.cell? ⟨ga, 1, none⟩ = some v1 ∧ w''.cell? ⟨ga, 2, none⟩ = some v2 := by
  obtain ⟨b, c0, c1, c2⟩ := h
  have hs := b.size
  exact ⟨b.trans (hb.mono hs), (hb.cell (p := ⟨ga, 0, none⟩) (Nat.lt_of_lt_of_le hga hs)).trans c0, (hb.cell (p := ⟨ga, 1, none⟩) (Nat.lt_of_lt_of_le hga hs)).trans c1, (hb.cell (p := ⟨ga, 2, none⟩) (Nat.lt_of_lt_of_le hga hs)).trans c2⟩
theorem keepA3D {W w' : World} {ga : Nat} {v0 v1 v2 : Value} (h : Below W.heap.size W w' ∧ w'.cell? ⟨ga, 0, none⟩ = some v0 ∧ w'.cell? ⟨ga, 1, none⟩ = some v1 ∧ w'.cell? ⟨ga, 2, none⟩ = some v2) : Below W.heap.size W w'.drew ∧ w'.drew.cell? ⟨ga, 0, none⟩ = some v0 ∧ w'.drew.cell? ⟨ga, 1, none⟩ = some v1 ∧ w'.drew.cell? ⟨ga, 2, none⟩ = some v2 := ⟨h.1.drew, h.2⟩
def ArRel (a : Aln) (w0 : World) (i : Value) (wr : World) : Prop := ∃ k : Nat, k ≤ a.held.length ∧ i = .int .i64 k ∧ (List.range k).all (hAt a) = true ∧ Below w0.heap.size w0 wr
set_option maxRecDepth 100000 in
set_option maxHeartbeats 4000000 in
theorem aright_any (a : Aln) (v : Value) (w : World) (hv : AlAt w v a) (b : Bool) (hb : rightA a = b) :
    Calls Try.prog 22 #[v] w fun e w' => e = .returned (.bool b) ∧ Below w.heap.size w w' := by
  have HV := Lib.hid hv
  obtain ⟨Ag, cg, Ah, ch, rfl, hg, hh, hat, hn, hlg, hlh⟩ := al_form hv
  have HG := Lib.hid hg
  have HH := Lib.hid hh
  have HAT := Lib.hid hat
  have HB := Lib.hid hb
  unfold maxLen at hlg hlh
  unfold wfL at hn
  clear hv hg hh hat hb
  obtain ⟨an, got, held⟩ := a
  simp only at hlg hlh hn ⊢
  obtain ⟨lg, hlg'⟩ : ∃ n, got.length = n := ⟨_, rfl⟩
  obtain ⟨lh, hlh'⟩ : ∃ n, held.length = n := ⟨_, rfl⟩
  have HLG := Lib.hid hlg'
  have HLH := Lib.hid hlh'
  rw [hlg'] at hlg ⊢
  rw [hlh'] at hlh ⊢
  clear hlg' hlh'
  by_cases h0 : lg < 1
  · have t0 : decide ((lg : Int) < 1) = true := by simp; omega
    obtain rfl : b = false := by rw [← HB.out]; unfold rightA; simp only [HLG.out, HLH.out]; simp; omega
    go_enter Try.func22, Try.ntmps22
    go_wp2_with fail
    obtain ⟨W1, hW2⟩ : ∃ X, X = (w).alloc (.cells #[.int .i64 an, .slice Ag lg cg, .slice Ah lh ch] 26) := ⟨_, rfl⟩
    rw [← hW2]
    have hb3 : Below w.heap.size w W1 := by rw [hW2]; exact bel_alloc (Below.refl _ _) _
    have Ns := Lib.hid (show W1.heap[w.heap.size]? = some (.cells #[.int .i64 an, .slice Ag lg cg, .slice Ah lh ch] 26 (0, 0)) by rw [hW2]; exact heap_at (w) _ (w.heap.size) (by simp))
    clear hW2
    have BB4 := Lib.hid hb3
    clear hb3
    have Bls := Ns
    clear Ns
    have gz := blk_lt Bls.out
    have hS : Below W1.heap.size W1 W1 ∧ W1.cell? ⟨w.heap.size, 0, none⟩ = some (.int .i64 an) ∧ W1.cell? ⟨w.heap.size, 1, none⟩ = some (.slice Ag lg cg) ∧ W1.cell? ⟨w.heap.size, 2, none⟩ = some (.slice Ah lh ch) := ⟨Below.refl _ _, cellsAt Bls.out 0, cellsAt Bls.out 1, cellsAt Bls.out 2⟩
    have zs := blk_lt Bls.out
    have xs0 := cellsAt Bls.out 0
    have xs1 := cellsAt Bls.out 1
    have xs2 := cellsAt Bls.out 2
    have fs := frozAt Bls.out
    simp at xs0 xs1 xs2
    go_quiet (fail)
    go_wp2_with fail
    go_ret
    exact ⟨rfl, bDrewN BB4.out⟩
  by_cases h1 : 8 < lg
  · have t0 : decide ((lg : Int) < 1) = false := by simp; omega
    have t1 : decide (8 < (lg : Int)) = true := by simp; omega
    obtain rfl : b = false := by rw [← HB.out]; unfold rightA; simp only [HLG.out, HLH.out]; simp; omega
    go_enter Try.func22, Try.ntmps22
    go_wp2_with fail
    obtain ⟨W1, hW2⟩ : ∃ X, X = (w).alloc (.cells #[.int .i64 an, .slice Ag lg cg, .slice Ah lh ch] 26) := ⟨_, rfl⟩
    rw [← hW2]
    have hb3 : Below w.heap.size w W1 := by rw [hW2]; exact bel_alloc (Below.refl _ _) _
    have Ns := Lib.hid (show W1.heap[w.heap.size]? = some (.cells #[.int .i64 an, .slice Ag lg cg, .slice Ah lh ch] 26 (0, 0)) by rw [hW2]; exact heap_at (w) _ (w.heap.size) (by simp))
    clear hW2
    have BB4 := Lib.hid hb3
    clear hb3
    have Bls := Ns
    clear Ns
    have gz := blk_lt Bls.out
    have hS : Below W1.heap.size W1 W1 ∧ W1.cell? ⟨w.heap.size, 0, none⟩ = some (.int .i64 an) ∧ W1.cell? ⟨w.heap.size, 1, none⟩ = some (.slice Ag lg cg) ∧ W1.cell? ⟨w.heap.size, 2, none⟩ = some (.slice Ah lh ch) := ⟨Below.refl _ _, cellsAt Bls.out 0, cellsAt Bls.out 1, cellsAt Bls.out 2⟩
    have zs := blk_lt Bls.out
    have xs0 := cellsAt Bls.out 0
    have xs1 := cellsAt Bls.out 1
    have xs2 := cellsAt Bls.out 2
    have fs := frozAt Bls.out
    simp at xs0 xs1 xs2
    go_quiet (fail)
    go_wp2_with fail
    go_ret
    exact ⟨rfl, bDrewN BB4.out⟩
  by_cases h2 : lh ≠ lg
  · have t0 : decide ((lg : Int) < 1) = false := by simp; omega
    have t1 : decide (8 < (lg : Int)) = false := by simp; omega
    have t2 : ((lh : Int) != (lg : Int)) = true := by simp; omega
    obtain rfl : b = false := by rw [← HB.out]; unfold rightA; simp only [HLG.out, HLH.out]; simp; omega
    go_enter Try.func22, Try.ntmps22
    go_wp2_with fail
    obtain ⟨W1, hW2⟩ : ∃ X, X = (w).alloc (.cells #[.int .i64 an, .slice Ag lg cg, .slice Ah lh ch] 26) := ⟨_, rfl⟩
    rw [← hW2]
    have hb3 : Below w.heap.size w W1 := by rw [hW2]; exact bel_alloc (Below.refl _ _) _
    have Ns := Lib.hid (show W1.heap[w.heap.size]? = some (.cells #[.int .i64 an, .slice Ag lg cg, .slice Ah lh ch] 26 (0, 0)) by rw [hW2]; exact heap_at (w) _ (w.heap.size) (by simp))
    clear hW2
    have BB4 := Lib.hid hb3
    clear hb3
    have Bls := Ns
    clear Ns
    have gz := blk_lt Bls.out
    have hS : Below W1.heap.size W1 W1 ∧ W1.cell? ⟨w.heap.size, 0, none⟩ = some (.int .i64 an) ∧ W1.cell? ⟨w.heap.size, 1, none⟩ = some (.slice Ag lg cg) ∧ W1.cell? ⟨w.heap.size, 2, none⟩ = some (.slice Ah lh ch) := ⟨Below.refl _ _, cellsAt Bls.out 0, cellsAt Bls.out 1, cellsAt Bls.out 2⟩
    have zs := blk_lt Bls.out
    have xs0 := cellsAt Bls.out 0
    have xs1 := cellsAt Bls.out 1
    have xs2 := cellsAt Bls.out 2
    have fs := frozAt Bls.out
    simp at xs0 xs1 xs2
    go_quiet (fail)
    go_wp2_with fail
    go_ret
    exact ⟨rfl, bDrewN BB4.out⟩
  have h2q : lg = lh := by omega
  subst h2q
  by_cases h3 : an < 0
  · have t0 : decide ((lg : Int) < 1) = false := by simp; omega
    have t1 : decide (8 < (lg : Int)) = false := by simp; omega
    have t3 : decide (an < 0) = true := by simp; omega
    obtain rfl : b = false := by rw [← HB.out]; unfold rightA; simp only [HLG.out, HLH.out]; simp; omega
    go_enter Try.func22, Try.ntmps22
    go_wp2_with fail
    obtain ⟨W1, hW2⟩ : ∃ X, X = (w).alloc (.cells #[.int .i64 an, .slice Ag lg cg, .slice Ah lg ch] 26) := ⟨_, rfl⟩
    rw [← hW2]
    have hb3 : Below w.heap.size w W1 := by rw [hW2]; exact bel_alloc (Below.refl _ _) _
    have Ns := Lib.hid (show W1.heap[w.heap.size]? = some (.cells #[.int .i64 an, .slice Ag lg cg, .slice Ah lg ch] 26 (0, 0)) by rw [hW2]; exact heap_at (w) _ (w.heap.size) (by simp))
    clear hW2
    have BB4 := Lib.hid hb3
    clear hb3
    have Bls := Ns
    clear Ns
    have gz := blk_lt Bls.out
    have hS : Below W1.heap.size W1 W1 ∧ W1.cell? ⟨w.heap.size, 0, none⟩ = some (.int .i64 an) ∧ W1.cell? ⟨w.heap.size, 1, none⟩ = some (.slice Ag lg cg) ∧ W1.cell? ⟨w.heap.size, 2, none⟩ = some (.slice Ah lg ch) := ⟨Below.refl _ _, cellsAt Bls.out 0, cellsAt Bls.out 1, cellsAt Bls.out 2⟩
    have zs := blk_lt Bls.out
    have xs0 := cellsAt Bls.out 0
    have xs1 := cellsAt Bls.out 1
    have xs2 := cellsAt Bls.out 2
    have fs := frozAt Bls.out
    simp at xs0 xs1 xs2
    go_quiet (fail)
    go_wp2_with fail
    go_ret
    exact ⟨rfl, bDrewN BB4.out⟩
  by_cases h4 : 1073741824 < an
  · have t0 : decide ((lg : Int) < 1) = false := by simp; omega
    have t1 : decide (8 < (lg : Int)) = false := by simp; omega
    have t3 : decide (an < 0) = false := by simp; omega
    have t4 : decide (1073741824 < an) = true := by simp; omega
    obtain rfl : b = false := by rw [← HB.out]; unfold rightA; simp only [HLG.out, HLH.out]; simp; omega
    go_enter Try.func22, Try.ntmps22
    go_wp2_with fail
    obtain ⟨W1, hW2⟩ : ∃ X, X = (w).alloc (.cells #[.int .i64 an, .slice Ag lg cg, .slice Ah lg ch] 26) := ⟨_, rfl⟩
    rw [← hW2]
    have hb3 : Below w.heap.size w W1 := by rw [hW2]; exact bel_alloc (Below.refl _ _) _
    have Ns := Lib.hid (show W1.heap[w.heap.size]? = some (.cells #[.int .i64 an, .slice Ag lg cg, .slice Ah lg ch] 26 (0, 0)) by rw [hW2]; exact heap_at (w) _ (w.heap.size) (by simp))
    clear hW2
    have BB4 := Lib.hid hb3
    clear hb3
    have Bls := Ns
    clear Ns
    have gz := blk_lt Bls.out
    have hS : Below W1.heap.size W1 W1 ∧ W1.cell? ⟨w.heap.size, 0, none⟩ = some (.int .i64 an) ∧ W1.cell? ⟨w.heap.size, 1, none⟩ = some (.slice Ag lg cg) ∧ W1.cell? ⟨w.heap.size, 2, none⟩ = some (.slice Ah lg ch) := ⟨Below.refl _ _, cellsAt Bls.out 0, cellsAt Bls.out 1, cellsAt Bls.out 2⟩
    have zs := blk_lt Bls.out
    have xs0 := cellsAt Bls.out 0
    have xs1 := cellsAt Bls.out 1
    have xs2 := cellsAt Bls.out 2
    have fs := frozAt Bls.out
    simp at xs0 xs1 xs2
    go_quiet (fail)
    go_wp2_with fail
    go_ret
    exact ⟨rfl, bDrewN BB4.out⟩
  have t0 : decide ((lg : Int) < 1) = false := by simp; omega
  have t1 : decide (8 < (lg : Int)) = false := by simp; omega
  have t3 : decide (an < 0) = false := by simp; omega
  have t4 : decide (1073741824 < an) = false := by simp; omega
  have HCT := Lib.hid (fun v W hW => bcontains_any got true v W hW (by rw [HLG.out]; omega))
  have HCF := Lib.hid (fun v W hW => bcontains_any got false v W hW (by rw [HLG.out]; omega))
  obtain ⟨ct, hct⟩ : ∃ c, got.contains true = c := ⟨_, rfl⟩
  obtain ⟨cf, hcf⟩ : ∃ c, got.contains false = c := ⟨_, rfl⟩
  obtain ⟨pz, hpz⟩ : ∃ c, decide (0 < an) = c := ⟨_, rfl⟩
  rw [hct] at HCT
  rw [hcf] at HCF
  have HT := Lib.hid hct
  have HF := Lib.hid hcf
  have HPZ := Lib.hid hpz
  have HRG := Lib.hid (show ∀ W, Below w.heap.size w W → Row bCs 1 W (.slice Ag lg cg) got by intro W h; have := HG.out.below h; simpa [HLG.out] using this)
  have HRH := Lib.hid (show ∀ W, Below w.heap.size w W → Row Hl.cs 1 W (.slice Ah lg ch) held by intro W h; have := HH.out.below h; simpa [HLH.out] using this)
  clear hct hcf
  cases ct with
  | false =>
    cases pz with
    | false =>
      cases cf with
      | false =>
        obtain rfl : b = false := by rw [← HB.out]; unfold rightA; simp only [HT.out, HF.out, HPZ.out]; simp
        go_enter Try.func22, Try.ntmps22
        go_wp2_with fail
        obtain ⟨W1, hW2⟩ : ∃ X, X = (w).alloc (.cells #[.int .i64 an, .slice Ag lg cg, .slice Ah lg ch] 26) := ⟨_, rfl⟩
        rw [← hW2]
        have hb3 : Below w.heap.size w W1 := by rw [hW2]; exact bel_alloc (Below.refl _ _) _
        have Ns := Lib.hid (show W1.heap[w.heap.size]? = some (.cells #[.int .i64 an, .slice Ag lg cg, .slice Ah lg ch] 26 (0, 0)) by rw [hW2]; exact heap_at (w) _ (w.heap.size) (by simp))
        clear hW2
        have BB4 := Lib.hid hb3
        clear hb3
        have Bls := Ns
        clear Ns
        have gz := blk_lt Bls.out
        have hS : Below W1.heap.size W1 W1 ∧ W1.cell? ⟨w.heap.size, 0, none⟩ = some (.int .i64 an) ∧ W1.cell? ⟨w.heap.size, 1, none⟩ = some (.slice Ag lg cg) ∧ W1.cell? ⟨w.heap.size, 2, none⟩ = some (.slice Ah lg ch) := ⟨Below.refl _ _, cellsAt Bls.out 0, cellsAt Bls.out 1, cellsAt Bls.out 2⟩
        have zs := blk_lt Bls.out
        have xs0 := cellsAt Bls.out 0
        have xs1 := cellsAt Bls.out 1
        have xs2 := cellsAt Bls.out 2
        have fs := frozAt Bls.out
        simp at xs0 xs1 xs2
        go_quiet (first | (go_at_call 48; with_reducible exact Calls.quiet_of (HCT.out _ _ (HRG.out _ (by first | exact BB4.out | exact bDrewN BB4.out)))) | (go_at_call 48; exact Calls.quiet_of (HCF.out _ _ (HRG.out _ (by first | exact BB4.out | exact bDrewN BB4.out)))))
        go_wp2_with fail
        go_ret
        exact ⟨rfl, bDrewN BB4.out⟩
      | true =>
        go_enter Try.func22, Try.ntmps22
        go_wp2_with fail
        obtain ⟨W1, hW2⟩ : ∃ X, X = (w).alloc (.cells #[.int .i64 an, .slice Ag lg cg, .slice Ah lg ch] 26) := ⟨_, rfl⟩
        rw [← hW2]
        have hb3 : Below w.heap.size w W1 := by rw [hW2]; exact bel_alloc (Below.refl _ _) _
        have Ns := Lib.hid (show W1.heap[w.heap.size]? = some (.cells #[.int .i64 an, .slice Ag lg cg, .slice Ah lg ch] 26 (0, 0)) by rw [hW2]; exact heap_at (w) _ (w.heap.size) (by simp))
        clear hW2
        have BB4 := Lib.hid hb3
        clear hb3
        have Bls := Ns
        clear Ns
        have gz := blk_lt Bls.out
        have hS : Below W1.heap.size W1 W1 ∧ W1.cell? ⟨w.heap.size, 0, none⟩ = some (.int .i64 an) ∧ W1.cell? ⟨w.heap.size, 1, none⟩ = some (.slice Ag lg cg) ∧ W1.cell? ⟨w.heap.size, 2, none⟩ = some (.slice Ah lg ch) := ⟨Below.refl _ _, cellsAt Bls.out 0, cellsAt Bls.out 1, cellsAt Bls.out 2⟩
        have zs := blk_lt Bls.out
        have xs0 := cellsAt Bls.out 0
        have xs1 := cellsAt Bls.out 1
        have xs2 := cellsAt Bls.out 2
        have fs := frozAt Bls.out
        simp at xs0 xs1 xs2
        go_quiet (first | (go_at_call 48; with_reducible exact Calls.quiet_of (HCT.out _ _ (HRG.out _ (by first | exact BB4.out | exact bDrewN BB4.out)))) | (go_at_call 48; exact Calls.quiet_of (HCF.out _ _ (HRG.out _ (by first | exact BB4.out | exact bDrewN BB4.out)))))
        obtain ⟨W5, hW6⟩ : ∃ X, X = W1.drewN nq := ⟨_, rfl⟩
        rw [← hW6]
        have hb7 : Below W1.heap.size W1 W5 := by rw [hW6]; exact bDrewN (Below.refl _ _)
        clear hW6
        clear zs fs xs0 xs1 xs2
        have Z := Lib.hid (heap_below Bls.out hb7)
        clear Bls
        have Bls := Z
        clear Z
        have BB8 := Lib.hid (bThen BB4.out hb7)
        clear hb7
        have zs := blk_lt Bls.out
        have xs0 := cellsAt Bls.out 0
        have xs1 := cellsAt Bls.out 1
        have xs2 := cellsAt Bls.out 2
        have fs := frozAt Bls.out
        simp at xs0 xs1 xs2
        go_wp2_with fail
        go_loopw [50] (fun i wr => ArRel ⟨an, got, held⟩ W5 i wr) (fun i _ => lg - (intOf i).toNat)
        case atStart => exact ⟨0, Nat.zero_le _, rfl, rfl, Below.refl _ _⟩
        case round =>
          obtain ⟨k, hk, rfl, hall, hbel⟩ := hrel
          rw [show (⟨an, got, held⟩ : Aln).held.length = lg from HLH.out] at hk
          have HL := Lib.hid hall
          clear hall
          have hrelB := Lib.hid hbel
          have Z := Lib.hid (heap_below Bls.out hbel)
          clear Bls
          have Bls := Z
          clear Z
          have BB9 := Lib.hid (bThen BB8.out hbel)
          clear hbel
          by_cases hlt : k < lg
          · obtain ⟨x, hi⟩ : ∃ x, held[k]? = some x := ⟨_, List.getElem?_eq_getElem (by rw [HLH.out]; exact hlt)⟩
            obtain ⟨g, hgi⟩ : ∃ x, got[k]? = some x := ⟨_, List.getElem?_eq_getElem (by rw [HLG.out]; exact hlt)⟩
            obtain ⟨b1, o1, d1, e1, -, hb1, hX1⟩ := (HRH.out _ (Below.refl _ _)).at_ hi
            injection e1 with e1 e1b e1c
            subst e1
            clear e1b e1c
            obtain ⟨b2, o2, d2, e2, -, hb2, hX2⟩ := (HRG.out _ (Below.refl _ _)).at_ hgi
            injection e2 with e2 e2b e2c
            subst e2
            clear e2b e2c
            have p0 := (BB9.out.cell (p := ⟨b1, o1 + k * 1 + 0, none⟩) hb1).trans (hX1 0 _ rfl)
            have p1 := (BB9.out.cell (p := ⟨b2, o2 + k * 1 + 0, none⟩) hb2).trans (hX2 0 _ rfl)
            have RX := Lib.hid ((HAT.out x (List.mem_of_getElem? hi)).below BB9.out)
            have HHX : hAt ⟨an, got, held⟩ k = (decide (x.l.length ≤ 16) && ((decide (x.l.length = 0) || g) && allI x.l)) := by unfold hAt; rw [List.getElem!_eq_getElem?_getD, List.getElem!_eq_getElem?_getD, hi, hgi]; rfl
            obtain ⟨⟨Ax, cx, hxe, -, -⟩, -, hxm⟩ := RX.out
            clear hX1 hX2 hi hgi
            obtain ⟨xr, xl⟩ := x
            simp only [Nat.add_zero, Nat.mul_one] at p0 p1 hxe hxm HHX
            subst hxe
            unfold maxLen at hxm
            have HHX := Lib.hid HHX
            have zb1 := Nat.lt_of_lt_of_le hb1 BB9.out.size
            have zb2 := Nat.lt_of_lt_of_le hb2 BB9.out.size
            have zs := blk_lt Bls.out
            have xs0 := cellsAt Bls.out 0
            have xs1 := cellsAt Bls.out 1
            have xs2 := cellsAt Bls.out 2
            have fs := frozAt Bls.out
            simp at xs0 xs1 xs2
            have hki : (0 : Int) ≤ (k : Int) := by omega
            have hki2 : (k : Int) < (lg : Int) := by omega
            by_cases h16 : 16 < xl.length
            · have t5 : decide (16 < (xl.length : Int)) = true := by simp; omega
              obtain rfl : b = false := by rw [← HB.out]; unfold rightA; rw [show (⟨an, got, held⟩ : Aln).held = held from rfl, HLH.out, all_range_not (hAt ⟨an, got, held⟩) hlt (by rw [HHX.out, decide_eq_false (show ¬ xl.length ≤ 16 by omega), Bool.false_and])]; simp
              go_wp2_with fail
              go_ret
              exact ⟨rfl, BB9.out⟩
            have t5 : decide (16 < (xl.length : Int)) = false := by simp; omega
            obtain ⟨z0, hz0⟩ : ∃ z, decide (xl.length = 0) = z := ⟨_, rfl⟩
            have H0 := Lib.hid hz0
            have t6 : decide (0 < (xl.length : Int)) = !z0 := by rw [← hz0, ← decide_not]; exact decide_eq_decide.2 (by omega)
            have t7 : decide (0 < xl.length) = !z0 := by rw [← hz0, ← decide_not]; exact decide_eq_decide.2 (by omega)
            have H16 := Lib.hid (show decide (xl.length ≤ 16) = true by simp; omega)
            have h17 : xl.length ≤ 16 := by omega
            clear hz0
            cases z0 with
            | true =>
              simp only [Bool.not_true] at t6 t7
              obtain ⟨qi, hqi⟩ : ∃ q, allI xl = q := ⟨_, rfl⟩
              have HCI := Lib.hid (fun v W hW => acontains_any xl v W hW (by omega))
              rw [hqi] at HCI
              have HQI := Lib.hid hqi
              clear hqi
              go_wp2_with fail
              refine (HCI.out _ _ RX.out.1).mono ?_
              rintro e wx ⟨rfl, hbx⟩
              cases qi with
              | false =>
                obtain rfl : b = false := by rw [← HB.out]; unfold rightA; rw [show (⟨an, got, held⟩ : Aln).held = held from rfl, HLH.out, all_range_not (hAt ⟨an, got, held⟩) hlt (by rw [HHX.out, HQI.out, Bool.and_false, Bool.and_false])]; simp
                go_wp2_with fail
                go_ret
                exact ⟨rfl, bThen BB9.out hbx⟩
              | true =>
                have hrel2 := bThen hrelB.out hbx
                go_wp2_with fail
                go_roundw
                case rel => exact ⟨k + 1, by rw [show (⟨an, got, held⟩ : Aln).held.length = lg from HLH.out]; omega, by go_num, by rw [all_range_succ, HL.out, HHX.out, HQI.out, H0.out, H16.out]; rfl, hrel2⟩
                case measure => simp [intOf]; omega
            | false =>
            simp only [Bool.not_false] at t6 t7
            cases g with
            | false =>
              obtain rfl : b = false := by rw [← HB.out]; unfold rightA; rw [show (⟨an, got, held⟩ : Aln).held = held from rfl, HLH.out, all_range_not (hAt ⟨an, got, held⟩) hlt (by rw [HHX.out, H0.out]; simp)]; simp
              go_wp2_with fail
              go_ret
              exact ⟨rfl, BB9.out⟩
            | true =>
              obtain ⟨qi, hqi⟩ : ∃ q, allI xl = q := ⟨_, rfl⟩
              have HCI := Lib.hid (fun v W hW => acontains_any xl v W hW (by omega))
              rw [hqi] at HCI
              have HQI := Lib.hid hqi
              clear hqi
              go_wp2_with fail
              refine (HCI.out _ _ RX.out.1).mono ?_
              rintro e wx ⟨rfl, hbx⟩
              cases qi with
              | false =>
                obtain rfl : b = false := by rw [← HB.out]; unfold rightA; rw [show (⟨an, got, held⟩ : Aln).held = held from rfl, HLH.out, all_range_not (hAt ⟨an, got, held⟩) hlt (by rw [HHX.out, HQI.out, Bool.and_false, Bool.and_false])]; simp
                go_wp2_with fail
                go_ret
                exact ⟨rfl, bThen BB9.out hbx⟩
              | true =>
                have hrel2 := bThen hrelB.out hbx
                go_wp2_with fail
                go_roundw
                case rel => exact ⟨k + 1, by rw [show (⟨an, got, held⟩ : Aln).held.length = lg from HLH.out]; omega, by go_num, by rw [all_range_succ, HL.out, HHX.out, HQI.out, H0.out, H16.out]; rfl, hrel2⟩
                case measure => simp [intOf]; omega
          · obtain rfl : k = lg := by omega
            obtain rfl : b = true := by rw [← HB.out]; unfold rightA; simp only [HT.out, HF.out, HPZ.out, HLG.out, HLH.out, HL.out]; simp; omega
            go_wp2_with fail
            go_ret
            exact ⟨rfl, BB9.out⟩
    | true =>
      obtain rfl : b = false := by rw [← HB.out]; unfold rightA; simp only [HT.out, HF.out, HPZ.out]; simp
      go_enter Try.func22, Try.ntmps22
      go_wp2_with fail
      obtain ⟨W1, hW2⟩ : ∃ X, X = (w).alloc (.cells #[.int .i64 an, .slice Ag lg cg, .slice Ah lg ch] 26) := ⟨_, rfl⟩
      rw [← hW2]
      have hb3 : Below w.heap.size w W1 := by rw [hW2]; exact bel_alloc (Below.refl _ _) _
      have Ns := Lib.hid (show W1.heap[w.heap.size]? = some (.cells #[.int .i64 an, .slice Ag lg cg, .slice Ah lg ch] 26 (0, 0)) by rw [hW2]; exact heap_at (w) _ (w.heap.size) (by simp))
      clear hW2
      have BB4 := Lib.hid hb3
      clear hb3
      have Bls := Ns
      clear Ns
      have gz := blk_lt Bls.out
      have hS : Below W1.heap.size W1 W1 ∧ W1.cell? ⟨w.heap.size, 0, none⟩ = some (.int .i64 an) ∧ W1.cell? ⟨w.heap.size, 1, none⟩ = some (.slice Ag lg cg) ∧ W1.cell? ⟨w.heap.size, 2, none⟩ = some (.slice Ah lg ch) := ⟨Below.refl _ _, cellsAt Bls.out 0, cellsAt Bls.out 1, cellsAt Bls.out 2⟩
      have zs := blk_lt Bls.out
      have xs0 := cellsAt Bls.out 0
      have xs1 := cellsAt Bls.out 1
      have xs2 := cellsAt Bls.out 2
      have fs := frozAt Bls.out
      simp at xs0 xs1 xs2
      go_quiet (first | (go_at_call 48; with_reducible exact Calls.quiet_of (HCT.out _ _ (HRG.out _ (by first | exact BB4.out | exact bDrewN BB4.out)))) | (go_at_call 48; exact Calls.quiet_of (HCF.out _ _ (HRG.out _ (by first | exact BB4.out | exact bDrewN BB4.out)))))
      go_wp2_with fail
      go_ret
      exact ⟨rfl, bDrewN BB4.out⟩
  | true =>
    cases pz with
    | false =>
      obtain rfl : b = false := by rw [← HB.out]; unfold rightA; simp only [HT.out, HF.out, HPZ.out]; simp
      go_enter Try.func22, Try.ntmps22
      go_wp2_with fail
      obtain ⟨W1, hW2⟩ : ∃ X, X = (w).alloc (.cells #[.int .i64 an, .slice Ag lg cg, .slice Ah lg ch] 26) := ⟨_, rfl⟩
      rw [← hW2]
      have hb3 : Below w.heap.size w W1 := by rw [hW2]; exact bel_alloc (Below.refl _ _) _
      have Ns := Lib.hid (show W1.heap[w.heap.size]? = some (.cells #[.int .i64 an, .slice Ag lg cg, .slice Ah lg ch] 26 (0, 0)) by rw [hW2]; exact heap_at (w) _ (w.heap.size) (by simp))
      clear hW2
      have BB4 := Lib.hid hb3
      clear hb3
      have Bls := Ns
      clear Ns
      have gz := blk_lt Bls.out
      have hS : Below W1.heap.size W1 W1 ∧ W1.cell? ⟨w.heap.size, 0, none⟩ = some (.int .i64 an) ∧ W1.cell? ⟨w.heap.size, 1, none⟩ = some (.slice Ag lg cg) ∧ W1.cell? ⟨w.heap.size, 2, none⟩ = some (.slice Ah lg ch) := ⟨Below.refl _ _, cellsAt Bls.out 0, cellsAt Bls.out 1, cellsAt Bls.out 2⟩
      have zs := blk_lt Bls.out
      have xs0 := cellsAt Bls.out 0
      have xs1 := cellsAt Bls.out 1
      have xs2 := cellsAt Bls.out 2
      have fs := frozAt Bls.out
      simp at xs0 xs1 xs2
      go_quiet (first | (go_at_call 48; with_reducible exact Calls.quiet_of (HCT.out _ _ (HRG.out _ (by first | exact BB4.out | exact bDrewN BB4.out)))) | (go_at_call 48; exact Calls.quiet_of (HCF.out _ _ (HRG.out _ (by first | exact BB4.out | exact bDrewN BB4.out)))))
      go_wp2_with fail
      go_ret
      exact ⟨rfl, bDrewN BB4.out⟩
    | true =>
      cases cf with
      | false =>
        obtain rfl : b = false := by rw [← HB.out]; unfold rightA; simp only [HT.out, HF.out, HPZ.out]; simp
        go_enter Try.func22, Try.ntmps22
        go_wp2_with fail
        obtain ⟨W1, hW2⟩ : ∃ X, X = (w).alloc (.cells #[.int .i64 an, .slice Ag lg cg, .slice Ah lg ch] 26) := ⟨_, rfl⟩
        rw [← hW2]
        have hb3 : Below w.heap.size w W1 := by rw [hW2]; exact bel_alloc (Below.refl _ _) _
        have Ns := Lib.hid (show W1.heap[w.heap.size]? = some (.cells #[.int .i64 an, .slice Ag lg cg, .slice Ah lg ch] 26 (0, 0)) by rw [hW2]; exact heap_at (w) _ (w.heap.size) (by simp))
        clear hW2
        have BB4 := Lib.hid hb3
        clear hb3
        have Bls := Ns
        clear Ns
        have gz := blk_lt Bls.out
        have hS : Below W1.heap.size W1 W1 ∧ W1.cell? ⟨w.heap.size, 0, none⟩ = some (.int .i64 an) ∧ W1.cell? ⟨w.heap.size, 1, none⟩ = some (.slice Ag lg cg) ∧ W1.cell? ⟨w.heap.size, 2, none⟩ = some (.slice Ah lg ch) := ⟨Below.refl _ _, cellsAt Bls.out 0, cellsAt Bls.out 1, cellsAt Bls.out 2⟩
        have zs := blk_lt Bls.out
        have xs0 := cellsAt Bls.out 0
        have xs1 := cellsAt Bls.out 1
        have xs2 := cellsAt Bls.out 2
        have fs := frozAt Bls.out
        simp at xs0 xs1 xs2
        go_quiet (first | (go_at_call 48; with_reducible exact Calls.quiet_of (HCT.out _ _ (HRG.out _ (by first | exact BB4.out | exact bDrewN BB4.out)))) | (go_at_call 48; exact Calls.quiet_of (HCF.out _ _ (HRG.out _ (by first | exact BB4.out | exact bDrewN BB4.out)))))
        go_wp2_with fail
        go_ret
        exact ⟨rfl, bDrewN BB4.out⟩
      | true =>
        go_enter Try.func22, Try.ntmps22
        go_wp2_with fail
        obtain ⟨W1, hW2⟩ : ∃ X, X = (w).alloc (.cells #[.int .i64 an, .slice Ag lg cg, .slice Ah lg ch] 26) := ⟨_, rfl⟩
        rw [← hW2]
        have hb3 : Below w.heap.size w W1 := by rw [hW2]; exact bel_alloc (Below.refl _ _) _
        have Ns := Lib.hid (show W1.heap[w.heap.size]? = some (.cells #[.int .i64 an, .slice Ag lg cg, .slice Ah lg ch] 26 (0, 0)) by rw [hW2]; exact heap_at (w) _ (w.heap.size) (by simp))
        clear hW2
        have BB4 := Lib.hid hb3
        clear hb3
        have Bls := Ns
        clear Ns
        have gz := blk_lt Bls.out
        have hS : Below W1.heap.size W1 W1 ∧ W1.cell? ⟨w.heap.size, 0, none⟩ = some (.int .i64 an) ∧ W1.cell? ⟨w.heap.size, 1, none⟩ = some (.slice Ag lg cg) ∧ W1.cell? ⟨w.heap.size, 2, none⟩ = some (.slice Ah lg ch) := ⟨Below.refl _ _, cellsAt Bls.out 0, cellsAt Bls.out 1, cellsAt Bls.out 2⟩
        have zs := blk_lt Bls.out
        have xs0 := cellsAt Bls.out 0
        have xs1 := cellsAt Bls.out 1
        have xs2 := cellsAt Bls.out 2
        have fs := frozAt Bls.out
        simp at xs0 xs1 xs2
        go_quiet (first | (go_at_call 48; with_reducible exact Calls.quiet_of (HCT.out _ _ (HRG.out _ (by first | exact BB4.out | exact bDrewN BB4.out)))) | (go_at_call 48; exact Calls.quiet_of (HCF.out _ _ (HRG.out _ (by first | exact BB4.out | exact bDrewN BB4.out)))))
        obtain ⟨W5, hW6⟩ : ∃ X, X = W1.drewN nq := ⟨_, rfl⟩
        rw [← hW6]
        have hb7 : Below W1.heap.size W1 W5 := by rw [hW6]; exact bDrewN (Below.refl _ _)
        clear hW6
        clear zs fs xs0 xs1 xs2
        have Z := Lib.hid (heap_below Bls.out hb7)
        clear Bls
        have Bls := Z
        clear Z
        have BB8 := Lib.hid (bThen BB4.out hb7)
        clear hb7
        have zs := blk_lt Bls.out
        have xs0 := cellsAt Bls.out 0
        have xs1 := cellsAt Bls.out 1
        have xs2 := cellsAt Bls.out 2
        have fs := frozAt Bls.out
        simp at xs0 xs1 xs2
        go_wp2_with fail
        go_loopw [50] (fun i wr => ArRel ⟨an, got, held⟩ W5 i wr) (fun i _ => lg - (intOf i).toNat)
        case atStart => exact ⟨0, Nat.zero_le _, rfl, rfl, Below.refl _ _⟩
        case round =>
          obtain ⟨k, hk, rfl, hall, hbel⟩ := hrel
          rw [show (⟨an, got, held⟩ : Aln).held.length = lg from HLH.out] at hk
          have HL := Lib.hid hall
          clear hall
          have hrelB := Lib.hid hbel
          have Z := Lib.hid (heap_below Bls.out hbel)
          clear Bls
          have Bls := Z
          clear Z
          have BB9 := Lib.hid (bThen BB8.out hbel)
          clear hbel
          by_cases hlt : k < lg
          · obtain ⟨x, hi⟩ : ∃ x, held[k]? = some x := ⟨_, List.getElem?_eq_getElem (by rw [HLH.out]; exact hlt)⟩
            obtain ⟨g, hgi⟩ : ∃ x, got[k]? = some x := ⟨_, List.getElem?_eq_getElem (by rw [HLG.out]; exact hlt)⟩
            obtain ⟨b1, o1, d1, e1, -, hb1, hX1⟩ := (HRH.out _ (Below.refl _ _)).at_ hi
            injection e1 with e1 e1b e1c
            subst e1
            clear e1b e1c
            obtain ⟨b2, o2, d2, e2, -, hb2, hX2⟩ := (HRG.out _ (Below.refl _ _)).at_ hgi
            injection e2 with e2 e2b e2c
            subst e2
            clear e2b e2c
            have p0 := (BB9.out.cell (p := ⟨b1, o1 + k * 1 + 0, none⟩) hb1).trans (hX1 0 _ rfl)
            have p1 := (BB9.out.cell (p := ⟨b2, o2 + k * 1 + 0, none⟩) hb2).trans (hX2 0 _ rfl)
            have RX := Lib.hid ((HAT.out x (List.mem_of_getElem? hi)).below BB9.out)
            have HHX : hAt ⟨an, got, held⟩ k = (decide (x.l.length ≤ 16) && ((decide (x.l.length = 0) || g) && allI x.l)) := by unfold hAt; rw [List.getElem!_eq_getElem?_getD, List.getElem!_eq_getElem?_getD, hi, hgi]; rfl
            obtain ⟨⟨Ax, cx, hxe, -, -⟩, -, hxm⟩ := RX.out
            clear hX1 hX2 hi hgi
            obtain ⟨xr, xl⟩ := x
            simp only [Nat.add_zero, Nat.mul_one] at p0 p1 hxe hxm HHX
            subst hxe
            unfold maxLen at hxm
            have HHX := Lib.hid HHX
            have zb1 := Nat.lt_of_lt_of_le hb1 BB9.out.size
            have zb2 := Nat.lt_of_lt_of_le hb2 BB9.out.size
            have zs := blk_lt Bls.out
            have xs0 := cellsAt Bls.out 0
            have xs1 := cellsAt Bls.out 1
            have xs2 := cellsAt Bls.out 2
            have fs := frozAt Bls.out
            simp at xs0 xs1 xs2
            have hki : (0 : Int) ≤ (k : Int) := by omega
            have hki2 : (k : Int) < (lg : Int) := by omega
            by_cases h16 : 16 < xl.length
            · have t5 : decide (16 < (xl.length : Int)) = true := by simp; omega
              obtain rfl : b = false := by rw [← HB.out]; unfold rightA; rw [show (⟨an, got, held⟩ : Aln).held = held from rfl, HLH.out, all_range_not (hAt ⟨an, got, held⟩) hlt (by rw [HHX.out, decide_eq_false (show ¬ xl.length ≤ 16 by omega), Bool.false_and])]; simp
              go_wp2_with fail
              go_ret
              exact ⟨rfl, BB9.out⟩
            have t5 : decide (16 < (xl.length : Int)) = false := by simp; omega
            obtain ⟨z0, hz0⟩ : ∃ z, decide (xl.length = 0) = z := ⟨_, rfl⟩
            have H0 := Lib.hid hz0
            have t6 : decide (0 < (xl.length : Int)) = !z0 := by rw [← hz0, ← decide_not]; exact decide_eq_decide.2 (by omega)
            have t7 : decide (0 < xl.length) = !z0 := by rw [← hz0, ← decide_not]; exact decide_eq_decide.2 (by omega)
            have H16 := Lib.hid (show decide (xl.length ≤ 16) = true by simp; omega)
            have h17 : xl.length ≤ 16 := by omega
            clear hz0
            cases z0 with
            | true =>
              simp only [Bool.not_true] at t6 t7
              obtain ⟨qi, hqi⟩ : ∃ q, allI xl = q := ⟨_, rfl⟩
              have HCI := Lib.hid (fun v W hW => acontains_any xl v W hW (by omega))
              rw [hqi] at HCI
              have HQI := Lib.hid hqi
              clear hqi
              go_wp2_with fail
              refine (HCI.out _ _ RX.out.1).mono ?_
              rintro e wx ⟨rfl, hbx⟩
              cases qi with
              | false =>
                obtain rfl : b = false := by rw [← HB.out]; unfold rightA; rw [show (⟨an, got, held⟩ : Aln).held = held from rfl, HLH.out, all_range_not (hAt ⟨an, got, held⟩) hlt (by rw [HHX.out, HQI.out, Bool.and_false, Bool.and_false])]; simp
                go_wp2_with fail
                go_ret
                exact ⟨rfl, bThen BB9.out hbx⟩
              | true =>
                have hrel2 := bThen hrelB.out hbx
                go_wp2_with fail
                go_roundw
                case rel => exact ⟨k + 1, by rw [show (⟨an, got, held⟩ : Aln).held.length = lg from HLH.out]; omega, by go_num, by rw [all_range_succ, HL.out, HHX.out, HQI.out, H0.out, H16.out]; rfl, hrel2⟩
                case measure => simp [intOf]; omega
            | false =>
            simp only [Bool.not_false] at t6 t7
            cases g with
            | false =>
              obtain rfl : b = false := by rw [← HB.out]; unfold rightA; rw [show (⟨an, got, held⟩ : Aln).held = held from rfl, HLH.out, all_range_not (hAt ⟨an, got, held⟩) hlt (by rw [HHX.out, H0.out]; simp)]; simp
              go_wp2_with fail
              go_ret
              exact ⟨rfl, BB9.out⟩
            | true =>
              obtain ⟨qi, hqi⟩ : ∃ q, allI xl = q := ⟨_, rfl⟩
              have HCI := Lib.hid (fun v W hW => acontains_any xl v W hW (by omega))
              rw [hqi] at HCI
              have HQI := Lib.hid hqi
              clear hqi
              go_wp2_with fail
              refine (HCI.out _ _ RX.out.1).mono ?_
              rintro e wx ⟨rfl, hbx⟩
              cases qi with
              | false =>
                obtain rfl : b = false := by rw [← HB.out]; unfold rightA; rw [show (⟨an, got, held⟩ : Aln).held = held from rfl, HLH.out, all_range_not (hAt ⟨an, got, held⟩) hlt (by rw [HHX.out, HQI.out, Bool.and_false, Bool.and_false])]; simp
                go_wp2_with fail
                go_ret
                exact ⟨rfl, bThen BB9.out hbx⟩
              | true =>
                have hrel2 := bThen hrelB.out hbx
                go_wp2_with fail
                go_roundw
                case rel => exact ⟨k + 1, by rw [show (⟨an, got, held⟩ : Aln).held.length = lg from HLH.out]; omega, by go_num, by rw [all_range_succ, HL.out, HHX.out, HQI.out, H0.out, H16.out]; rfl, hrel2⟩
                case measure => simp [intOf]; omega
          · obtain rfl : k = lg := by omega
            obtain rfl : b = true := by rw [← HB.out]; unfold rightA; simp only [HT.out, HF.out, HPZ.out, HLG.out, HLH.out, HL.out]; simp; omega
            go_wp2_with fail
            go_ret
            exact ⟨rfl, BB9.out⟩
end Go.Proofs.Ytenpgkkefielfaa
