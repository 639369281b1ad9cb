/-
  WALKS of the top laws: a value is added to a key's window.
-/
import Derived.Test.YtlboehpgpbchhaaTopW13
import Derived.Deep.RegionLaw
import Derived.Deep.RegionHeldLaw
import Derived.Deep.CutRange
set_option linter.unusedVariables false
set_option linter.unusedSimpArgs false
namespace Go.Proofs.Ytlboehpgpbchhaa
open Go.RowKit

/-- May a value be added? -/
def adB (f : Int) (l : List Pn) (k : ByteArray) (lo hi : Int) : Bool := prB l && (fR f && pmB ⟨lo, hi, k, 1, 0, 0⟩)
/-- What pane.Add tells. -/
def AdTo (m f : Int) (l : List Pn) (k : ByteArray) (lo hi : Int) (w : World) (e : Ending) (w' : World) : Prop :=
  (if adB f l k lo hi = true then ((2000 ≤ l.length ∧ e = .returned (.tuple #[.slice none 0 0, .int .i64 3])) ∨ ∃ (v' : Value) (l' : List Pn) (a b : Int), e = .returned (.tuple #[v', .int .i64 0]) ∧ w'.ownsRow w.heap.size 59 6 v' l'.length (l'.flatMap Pn.cs) ∧ l'.length ≤ l.length + 1 ∧ (l = [] → l' = [⟨lo, hi, k, 1, a, b⟩]) ∧ PnsM (m + 1) l')
    else e = .returned (.tuple #[.slice none 0 0, .int .i64 1])) ∧ Below w.heap.size w w'
def AdRel (W0 : World) (f : Int) (k : ByteArray) (lo hi : Int) (p : Value) (W : World) : Prop :=
  ∃ (gp : Nat) (n a b : Int), p = .pointer (some ⟨gp, 0, none⟩) ∧ W.heap[gp]? = some (.cells #[.int .i64 lo, .int .i64 hi, .string k, .int .i64 n, .int .i64 a, .int .i64 b] 59 (0, 0)) ∧ (fR f = true → n = 1) ∧ i64B n ∧ i64B a ∧ i64B b ∧ Below W0.heap.size W0 W
theorem put_two {base : Nat} {m : Int} {l : List Pn} {p : Pn} {w w' : World} {e : Ending} (h : PuTo base m l p w e w') : ∃ (v' : Value) (er : Int), e = .returned (.tuple #[v', .int .i64 er]) ∧ PuTo base m l p w (.returned (.tuple #[v', .int .i64 er])) w' := by
  rcases h with ⟨⟨h1, rfl⟩ | ⟨v', l', rfl, h1⟩, hb⟩
  · exact ⟨_, _, rfl, .inl ⟨h1, rfl⟩, hb⟩
  · exact ⟨_, _, rfl, .inr ⟨v', l', rfl, h1⟩, hb⟩
theorem keepA {W w' : World} {g : Nat} {a0 a1 : Value} (h : Below W.heap.size W w' ∧ w'.cell? ⟨g, 0, none⟩ = some a0 ∧ w'.cell? ⟨g, 1, none⟩ = some a1) : Below W.heap.size W w'.drew ∧ w'.drew.cell? ⟨g, 0, none⟩ = some a0 ∧ w'.drew.cell? ⟨g, 1, none⟩ = some a1 := ⟨Below.drew h.1, h.2⟩
theorem keepAb {W w' w'' : World} {g : Nat} {a0 a1 : Value} (h : Below W.heap.size W w' ∧ w'.cell? ⟨g, 0, none⟩ = some a0 ∧ w'.cell? ⟨g, 1, none⟩ = some a1) (hb : Below w'.heap.size w' w'') : Below W.heap.size W w'' ∧ w''.cell? ⟨g, 0, none⟩ = some a0 ∧ w''.cell? ⟨g, 1, none⟩ = some a1 := by
  obtain ⟨b, c0, c1⟩ := h
  have hg : g < w'.heap.size := World.block_lt_of_cell? w' ⟨g, 0, none⟩ c0
  exact ⟨bThen b hb, (hb.cell (p := ⟨g, 0, none⟩) hg).trans c0, (hb.cell (p := ⟨g, 1, none⟩) hg).trans c1⟩
theorem keepAa {W w' : World} {g : Nat} {a0 a1 : Value} (h : Below W.heap.size W w' ∧ w'.cell? ⟨g, 0, none⟩ = some a0 ∧ w'.cell? ⟨g, 1, none⟩ = some a1) (o : Obj) : Below W.heap.size W (w'.alloc o) ∧ (w'.alloc o).cell? ⟨g, 0, none⟩ = some a0 ∧ (w'.alloc o).cell? ⟨g, 1, none⟩ = some a1 := keepAb h (bel_alloc (Below.refl _ _) o)
theorem keepAs {W w' : World} {g : Nat} {a0 a1 : Value} (h : Below W.heap.size W w' ∧ w'.cell? ⟨g, 0, none⟩ = some a0 ∧ w'.cell? ⟨g, 1, none⟩ = some a1) (hg : g < W.heap.size) {q : Nat} (hq : W.heap.size ≤ q) (j : Nat) (u : Value) : Below W.heap.size W (w'.setCell ⟨q, j, none⟩ u) ∧ (w'.setCell ⟨q, j, none⟩ u).cell? ⟨g, 0, none⟩ = some a0 ∧ (w'.setCell ⟨q, j, none⟩ u).cell? ⟨g, 1, none⟩ = some a1 := by
  obtain ⟨b, c0, c1⟩ := h
  have hne : ∀ i, (⟨g, i, none⟩ : Addr).block ≠ (⟨q, j, none⟩ : Addr).block := fun i => by simp only; omega
  exact ⟨b.setCell (p := ⟨q, j, none⟩) hq u, (World.cell?_of_block (Below.heap_setCell w' _ u _ (hne 0))).trans c0, (World.cell?_of_block (Below.heap_setCell w' _ u _ (hne 1))).trans c1⟩
theorem set6 {w1 : World} {g : Nat} {x0 x1 x2 x3 x4 x5 : Value} {T : TypeId} (h : w1.heap[g]? = some (.cells #[x0, x1, x2, x3, x4, x5] T (0, 0))) (a b c d e f : Value) :
    ((((((w1.setCell ⟨g, 0, none⟩ a).setCell ⟨g, 1, none⟩ b).setCell ⟨g, 2, none⟩ c).setCell ⟨g, 3, none⟩ d).setCell ⟨g, 4, none⟩ e).setCell ⟨g, 5, none⟩ f).heap[g]? = some (.cells #[a, b, c, d, e, f] T (0, 0)) := by
  have := blk_set (blk_set (blk_set (blk_set (blk_set (blk_set h 0 a) 1 b) 2 c) 3 d) 4 e) 5 f
  simpa using this
theorem bel6 {w w1 : World} {n : Nat} (B : Below n w w1) {g : Nat} (hg : n ≤ g) (a b c d e f : Value) :
    Below n w ((((((w1.setCell ⟨g, 0, none⟩ a).setCell ⟨g, 1, none⟩ b).setCell ⟨g, 2, none⟩ c).setCell ⟨g, 3, none⟩ d).setCell ⟨g, 4, none⟩ e).setCell ⟨g, 5, none⟩ f) :=
  (((((B.setCell (p := ⟨g, 0, none⟩) hg a).setCell (p := ⟨g, 1, none⟩) hg b).setCell (p := ⟨g, 2, none⟩) hg c).setCell (p := ⟨g, 3, none⟩) hg d).setCell (p := ⟨g, 4, none⟩) hg e).setCell (p := ⟨g, 5, none⟩) hg f
set_option maxRecDepth 100000 in
set_option maxHeartbeats 4000000 in
theorem padd_any (m f : Int) (l : List Pn) (k : ByteArray) (lo hi v : Int) (vl : Value) (w : World) (hv : Row Pn.cs 6 w vl l) (hl : l.length ≤ maxLen) (hm : 1 ≤ m) (hm2 : m ≤ 1000000) (hM : PnsM m l) (hk : k.size ≤ maxLen) (hlo : i64B lo) (hhi : i64B hi) (hvv : i64B v) :
    Calls Try.prog 87 #[vl, .int .i64 f, .string k, .agg #[.int .i64 lo, .int .i64 hi], .int .i64 v] w (AdTo m f l k lo hi w) := by
  have HV := Lib.hid hv
  have HM := Lib.hid hM
  have HL := Lib.hid hl
  have HK := Lib.hid hk
  have HO := Lib.hid (fun w => one_any f v w hvv)
  have HR := Lib.hid (fun w h => pright_any l vl w h (fun p hp => (hM p hp).1.2.2.1) hl)
  have HF := Lib.hid (fun w => fright_any f w)
  have HLO := Lib.hid hlo
  have HHI := Lib.hid hhi
  obtain ⟨A, c, rfl, hc, -⟩ := hv
  obtain ⟨n, hn⟩ : ∃ n, l.length = n := ⟨_, rfl⟩
  have HN := Lib.hid hn
  rw [hn] at hc HV HR ⊢
  clear hM hl hk hn hlo hhi hvv
  go_enter Try.func87, Try.ntmps87
  go_upto_region 1 with fail
  obtain ⟨W2, hW2⟩ : ∃ X, X = w.alloc (.cells #[.int .i64 lo, .int .i64 hi] 55) := ⟨_, rfl⟩
  rw [← hW2]
  have B2 := Lib.hid (show Below w.heap.size w W2 by rw [hW2]; exact bel_alloc (Below.refl _ _) _)
  have Bw := Lib.hid (show W2.heap[w.heap.size]? = some (.cells #[.int .i64 lo, .int .i64 hi] 55 (0, 0)) by rw [hW2]; exact heap_at _ _ _ rfl)
  clear hW2
  have zw := blk_lt Bw.out
  have xw0 := cellsAt Bw.out 0
  have xw1 := cellsAt Bw.out 1
  simp at xw0 xw1
  go_cut [12] from 13 to 38 (fun p W => AdRel W2 f k lo hi p W)
  case first =>
    go_region_law (first | (go_simp; go_at_call 102; refine (HO.out _).mono ?_; rintro e wc ⟨⟨n1, a1, b1, rfl, hn1, ha1, hb1⟩, hbc⟩; have yw0 : wc.cell? ⟨w.heap.size, 0, none⟩ = some (.int .i64 lo) := (hbc.cell (p := ⟨w.heap.size, 0, none⟩) (by simp; omega)).trans (by first | exact xw0 | exact ((bel_alloc (Below.refl _ W2) _).cell (p := ⟨w.heap.size, 0, none⟩) zw).trans xw0); have yw1 : wc.cell? ⟨w.heap.size, 1, none⟩ = some (.int .i64 hi) := (hbc.cell (p := ⟨w.heap.size, 1, none⟩) (by simp; omega)).trans (by first | exact xw1 | exact ((bel_alloc (Below.refl _ W2) _).cell (p := ⟨w.heap.size, 1, none⟩) zw).trans xw1); have zwc : w.heap.size < wc.heap.size := Nat.lt_of_lt_of_le zw (by have := hbc.size; simp at this; omega); (try (have tb : wc.heap[W2.heap.size]? = some (.cells #[.int .i64 0, .int .i64 0, .string ⟨#[]⟩, .int .i64 0, .int .i64 0, .int .i64 0] 59 (0, 0)) := (hbc.block W2.heap.size (by simp)).trans (heap_alloc_new _ _); have tc0 := cellsAt tb 0; have tc1 := cellsAt tb 1; have tc2 := cellsAt tb 2; have tc3 := cellsAt tb 3; have tc4 := cellsAt tb 4; have tc5 := cellsAt tb 5; have tcz := frozAt tb; simp at tc0 tc1 tc2 tc3 tc4 tc5)); have tq := hbc.size))
    all_goals
      go_wp2_with fail
      go_meet
      simp at tq
      first
        | exact ⟨_, _, _, _, rfl, set6 tb _ _ _ _ _ _, hn1, ha1, hb1.1, hb1.2, bel6 ((Below.drew (bel_alloc (Below.refl _ _) _)).trans (hbc.mono (by simp))) (Nat.le_refl _) _ _ _ _ _ _⟩
        | exact ⟨_, _, _, _, rfl, heap_at _ _ _ rfl, hn1, ha1, hb1.1, hb1.2, (((Below.drew (Below.refl _ _)).trans (hbc.mono (by simp))).alloc tq _)⟩
  case rest =>
    obtain ⟨gp, n1, a1, b1, rfl, hg, hn1, hn2, ha1, hb1, hb⟩ := hcut
    have HN1 := Lib.hid hn1
    have HPW := Lib.hid (show i64B n1 ∧ i64B a1 ∧ i64B b1 from ⟨hn2, ha1, hb1⟩)
    have B3 := Lib.hid (bThen B2.out hb)
    have Bp := Lib.hid hg
    clear hn1 hn2 ha1 hb1 hb hg zw xw0 xw1 Bw B2 HO
    obtain ⟨q1, hq1⟩ : ∃ q, prB l = q := ⟨_, rfl⟩
    have HQ1 := Lib.hid hq1
    have HR2 := Lib.hid (HR.out wc (HV.out.below B3.out))
    rw [hq1] at HR2
    clear hq1 HR
    go_wp2_with fail
    refine (HR2.out).mono ?_
    rintro e w4 ⟨rfl, hb4⟩
    have B4 := Lib.hid (bThen B3.out hb4)
    have Bp4 := Lib.hid (heap_below Bp.out hb4)
    clear hb4 B3 Bp HR2
    cases q1 with
    | false =>
      go_wp2_with fail
      go_ret2
      exact ⟨by unfold adB; rw [HQ1.out]; simp, B4.out⟩
    | true =>
      obtain ⟨q2, hq2⟩ : ∃ q, fR f = q := ⟨_, rfl⟩
      have HQ2 := Lib.hid hq2
      rw [hq2] at HF
      clear hq2
      go_wp2_with fail
      refine (HF.out _).mono ?_
      rintro e w5 ⟨rfl, rfl⟩
      cases q2 with
      | false =>
        go_wp2_with fail
        go_ret2
        exact ⟨by unfold adB; rw [HQ1.out, HQ2.out]; simp, B4.out⟩
      | true =>
        obtain ⟨q3, hq3⟩ : ∃ q, pmB ⟨lo, hi, k, 1, 0, 0⟩ = q := ⟨_, rfl⟩
        have HQ3 := Lib.hid hq3
        have hn1 : n1 = 1 := HN1.out HQ2.out
        subst hn1
        have HM3 := Lib.hid (fun w => pmay_any ⟨lo, hi, k, 1, a1, b1⟩ w HK.out)
        rw [show pmB ⟨lo, hi, k, 1, a1, b1⟩ = q3 from hq3] at HM3
        unfold Pn.val at HM3
        simp only at HM3
        clear hq3
        have zg := blk_lt Bp4.out
        have x0 := cellsAt Bp4.out 0
        have x1 := cellsAt Bp4.out 1
        have x2 := cellsAt Bp4.out 2
        have x3 := cellsAt Bp4.out 3
        have x4 := cellsAt Bp4.out 4
        have x5 := cellsAt Bp4.out 5
        simp at x0 x1 x2 x3 x4 x5
        go_wp2_with fail
        refine (HM3.out _).mono ?_
        rintro e w6 ⟨rfl, hb6⟩
        have B6 := Lib.hid (bThen B4.out hb6)
        have Bp6 := Lib.hid (heap_below Bp4.out hb6)
        clear hb6 B4 Bp4 zg x0 x1 x2 x3 x4 x5
        cases q3 with
        | false =>
          go_wp2_with fail
          go_ret2
          exact ⟨by unfold adB; rw [HQ1.out, HQ2.out, HQ3.out]; simp, B6.out⟩
        | true =>
          have hn2 : n ≤ 2000 := by
            have := HQ1.out
            unfold prB at this
            rw [HN.out] at this
            simp at this
            exact this.1
          have HW6 := Lib.hid (HV.out.below (Below.drew B6.out))
          have HN2 := Lib.hid hn2
          have zg := blk_lt Bp6.out
          have x0 := cellsAt Bp6.out 0
          have x1 := cellsAt Bp6.out 1
          have x2 := cellsAt Bp6.out 2
          have x3 := cellsAt Bp6.out 3
          have x4 := cellsAt Bp6.out 4
          have x5 := cellsAt Bp6.out 5
          simp at x0 x1 x2 x3 x4 x5
          go_upto_region 4 with fail
          go_region_law (first | (go_simp; go_at_call 73; refine (pclone_any l _ _ HW6.out (by rw [HN.out]; have := HN2.out; omega)).mono ?_; rintro e wc ⟨vc, rfl, hoc, hbc⟩; have tq := hbc.size; have gq := heap_below Bp6.out (bUndrew hbc); have zq := blk_lt gq; have y0 := cellsAt gq 0; have y1 := cellsAt gq 1; have y2 := cellsAt gq 2; have y3 := cellsAt gq 3; have y4 := cellsAt gq 4; have y5 := cellsAt gq 5; simp at y0 y1 y2 y3 y4 y5) | (go_simp; go_at_call 103; refine (put_any w6.drew.heap.size m f l ⟨lo, hi, k, 1, a1, b1⟩ _ _ hoc tq (by rw [HN.out]; exact HN2.out) HQ2.out hm hm2 ⟨⟨HLO.out, HHI.out, HK.out, i64_1, HPW.out.2.1, HPW.out.2.2⟩, rfl⟩ HM.out).mono ?_; rintro e wd hpu0; obtain ⟨vd, er, rfl, hpu⟩ := put_two hpu0))
          all_goals
            have HPU := Lib.hid hpu
            have BC := Lib.hid (bThen B6.out (bUndrew hbc))
            have TQ := Lib.hid tq
            clear hpu hpu0 hoc hbc tq y0 y1 y2 y3 y4 y5 gq zq
            go_wp2_with fail
            go_ret2
            have hbel : Below w.heap.size w wd := BC.out.trans (HPU.out.2.mono (show w.heap.size ≤ w6.drew.heap.size from B6.out.size))
            refine ⟨?_, hbel⟩
            rw [if_pos (by unfold adB; rw [HQ1.out, HQ2.out, HQ3.out]; rfl)]
            rcases HPU.out.1 with ⟨h1, h2⟩ | ⟨v', l', h1, h2, h3, h4, h5⟩
            · exact .inl ⟨h1, h2⟩
            · exact .inr ⟨v', l', a1, b1, h1, own_base h2 (show w.heap.size ≤ w6.drew.heap.size from B6.out.size), h3, h4, h5⟩
end Go.Proofs.Ytlboehpgpbchhaa
