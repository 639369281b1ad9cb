/-
  WALKS of layer 17: Commit, Read, Write of the reference.
-/
import Derived.Test.YtlboehpgpbchhaaStoreW9
set_option linter.unusedVariables false
set_option linter.unusedSimpArgs false
namespace Go.Proofs.Ytlboehpgpbchhaa
open Go.RowKit

/-- A row of cells stays when a box of a store is written: no cell of it lies in the box. -/
theorem row_set3 {w1 : World} {v : Value} {l : List Cl} (h : Row Cl.cs 2 w1 v l) {g : Nat} {b : Bool} {T : TypeId} {A A2 : Option Addr} {n c n2 c2 : Nat} (hg : w1.heap[g]? = some (.cells #[.slice A n c, .slice A2 n2 c2, .bool b] T (0, 0))) (y0 y1 y2 : Value) :
    Row Cl.cs 2 (((w1.setCell ⟨g, 0, none⟩ y0).setCell ⟨g, 1, none⟩ y1).setCell ⟨g, 2, none⟩ y2) v l := by
  obtain ⟨A, c, e, hc, h⟩ := h
  refine ⟨A, c, e, hc, fun hl => ?_⟩
  obtain ⟨b, o, ha, hb, hx⟩ := h hl
  have hne : b ≠ g := by
    intro e2
    subst e2
    obtain ⟨x, hx0⟩ : ∃ x, l[0]? = some x := ⟨_, List.getElem?_eq_getElem hl⟩
    have h0 := hx 0 x 0 _ hx0 rfl
    have h1 := hx 0 x 1 _ hx0 rfl
    rw [cellsAt hg] at h0 h1
    simp only [Nat.zero_mul, Nat.add_zero] at h0 h1
    match o, h0 with
    | 0, h0 => simp at h0
    | 1, h0 => simp at h0
    | 2, h0 => simp at h0
    | o + 3, h0 => simp at h0
  refine ⟨b, o, ha, by simpa [World.setCell] using hb, fun i x j u h1 h2 => ?_⟩
  have h3 := hx i x j u h1 h2
  have hs : ∀ (w : World) (k : Nat) (u : Value), (w.setCell ⟨g, k, none⟩ u).cell? ⟨b, o + i * 2 + j, none⟩ = w.cell? ⟨b, o + i * 2 + j, none⟩ := fun w k u => by
    unfold World.cell?
    rw [show (w.setCell ⟨g, k, none⟩ u).heap[b]? = w.heap[b]? from Below.heap_setCell w ⟨g, k, none⟩ u b hne]
  rw [hs, hs, hs]
  exact h3
set_option maxRecDepth 100000 in
set_option maxHeartbeats 4000000 in
theorem rcommit_any (s : St) (v : Value) (w : World) (hs : StAt w v s) :
    Calls Try.prog 21 #[v] w (StTo (commitS s) w) := by
  have HS := Lib.hid hs
  obtain ⟨lc, lf, d⟩ := s
  obtain ⟨A, c, A', c', rfl, hv, hu⟩ := hs.form
  simp only at hv hu
  have RL := Lib.hid hv.1
  have RF := Lib.hid hu.1
  have OKL := Lib.hid hv.2.1
  have OKF := Lib.hid hu.2.1
  have hl := hv.2.2
  have hl2 := hu.2.2
  have HV := Lib.hid hv
  have HU := Lib.hid hu
  obtain ⟨m, hm⟩ : ∃ m, lc.length = m := ⟨_, rfl⟩
  obtain ⟨m2, hm2⟩ : ∃ m, lf.length = m := ⟨_, rfl⟩
  obtain ⟨R, hR⟩ : ∃ R, commitS ⟨lc, lf, d⟩ = R := ⟨_, rfl⟩
  rw [hR]
  have HR := Lib.hid hR
  simp only at HV HU ⊢
  rw [hm] at RL HV hl ⊢
  rw [hm2] at RF HU hl2 ⊢
  have Hm := Lib.hid hm
  have Hm2 := Lib.hid hm2
  obtain ⟨q, hq⟩ : ∃ q, rightB lc lf = q := ⟨_, rfl⟩
  have HD := Lib.hid (fun W h1 h2 => rright_any lc lf d (.slice A m c) (.slice A' m2 c') W h1 h2 q hq)
  have HQ := Lib.hid hq
  clear hm hm2 hv hu hR hq hs
  unfold StTo
  go_enter Try.func21, Try.ntmps21
  go_wp2_with fail
  obtain ⟨W1, hW2⟩ : ∃ X, X = ((w).alloc (.cells #[.slice A m c, .slice A' m2 c', .bool d] 24)).alloc (.cells #[.slice none 0 0, .slice none 0 0, .bool false] 24) := ⟨_, rfl⟩
  rw [← hW2]
  have hb3 : Below w.heap.size w W1 := by rw [hW2]; exact bel_alloc (bel_alloc (Below.refl _ _) _) _
  have Ns := Lib.hid (show W1.heap[w.heap.size]? = some (.cells #[.slice A m c, .slice A' m2 c', .bool d] 24 (0, 0)) by rw [hW2]; exact heap_below (heap_at (w) _ (w.heap.size) (by simp)) (bel_alloc (Below.refl _ _) _))
  have Nz := Lib.hid (show W1.heap[w.heap.size + 1]? = some (.cells #[.slice none 0 0, .slice none 0 0, .bool false] 24 (0, 0)) by rw [hW2]; exact heap_at ((w).alloc (.cells #[.slice A m c, .slice A' m2 c', .bool d] 24)) _ (w.heap.size + 1) (by simp))
  clear hW2
  have BB4 := Lib.hid hb3
  clear hb3
  have Bls := Ns
  clear Ns
  have Blz := Nz
  clear Nz
  have R1 := Lib.hid (HV.out.below BB4.out)
  have R2 := Lib.hid (HU.out.below BB4.out)
  refine (HD.out _ R1.out R2.out).mono ?_
  rintro e w5 ⟨rfl, hb6⟩
  have Z := Lib.hid (heap_below Bls.out hb6)
  clear Bls
  have Bls := Z
  clear Z
  have Z := Lib.hid (heap_below Blz.out hb6)
  clear Blz
  have Blz := Z
  clear Z
  have Z := Lib.hid (OkRow.below R1.out hb6)
  clear R1
  have R1 := Z
  clear Z
  have Z := Lib.hid (OkRow.below R2.out hb6)
  clear R2
  have R2 := Z
  clear Z
  have BB7 := Lib.hid (bThen BB4.out hb6)
  clear hb6
  have zs := blk_lt Bls.out
  have xs0 := cellsAt Bls.out 0
  have xs1 := cellsAt Bls.out 1
  have xs2 := cellsAt Bls.out 2
  have fs := frozAt Bls.out
  simp at xs0 xs1 xs2
  have zz := blk_lt Blz.out
  have xz0 := cellsAt Blz.out 0
  have xz1 := cellsAt Blz.out 1
  have xz2 := cellsAt Blz.out 2
  have fz := frozAt Blz.out
  simp at xz0 xz1 xz2
  cases q with
  | false =>
    have HRR := Lib.hid (show R = (zS, 1) by rw [← HR.out]; unfold commitS; simp only; rw [if_neg (by rw [HQ.out]; simp)])
    go_wp2_with fail
    exact bodyPost_ret (v := .tuple #[.agg #[.slice none 0 0, .slice none 0 0, .bool false], .int .i64 1]) (by simp [results, Try.results21, go_sem, xz0, xz1, xz2]) rfl ⟨_, by rw [HRR.out], by rw [HRR.out]; exact zS_at _, bel3 BB7.out (by omega) _ _ _⟩
  | true =>
    cases d with
    | true =>
      have HRR := Lib.hid (show R = (zS, 170) by rw [← HR.out]; unfold commitS; simp only; rw [if_pos HQ.out, if_pos trivial])
      go_wp2_with fail
      exact bodyPost_ret (v := .tuple #[.agg #[.slice none 0 0, .slice none 0 0, .bool false], .int .i64 170]) (by simp [results, Try.results21, go_sem, xz0, xz1, xz2]) rfl ⟨_, by rw [HRR.out], by rw [HRR.out]; exact zS_at _, bel3 BB7.out (by omega) _ _ _⟩
    | false =>
      have HRC := Lib.hid (right_iff.1 HQ.out)
      have hm64 : lc.length ≤ 64 := HRC.out.len
      have hm264 : lf.length ≤ 64 := HRC.out.flen
      have HR2 := Lib.hid (show (if 64 < (countL lc lf).length then (zS, (3 : Int)) else (⟨countL lc lf, [], false⟩, 0)) = R by rw [← HR.out]; unfold commitS; rw [if_pos HQ.out]; rfl)
      go_wp2_with fail
      refine (rcount_any lc lf _ _ _ R1.out.1 R2.out.1 (by omega) (by omega) HRC.out.rise).mono ?_
      rintro e w8 ⟨v5, rfl, hr5, hb9⟩
      clear zs fs xs0 xs1 xs2 zz fz xz0 xz1 xz2
      have Z := Lib.hid (heap_below Bls.out hb9)
      clear Bls
      have Bls := Z
      clear Z
      have Z := Lib.hid (heap_below Blz.out hb9)
      clear Blz
      have Blz := Z
      clear Z
      have Z := Lib.hid (OkRow.below R1.out hb9)
      clear R1
      have R1 := Z
      clear Z
      have Z := Lib.hid (OkRow.below R2.out hb9)
      clear R2
      have R2 := Z
      clear Z
      have BB10 := Lib.hid (bThen BB7.out hb9)
      clear hb9
      have RC := Lib.hid hr5
      obtain ⟨A5, c5, rfl, -⟩ := hr5
      have HOKL := Lib.hid (mem_ok OKL.out OKF.out HRC.out.rise)
      have hcl := count_len (f := lf) HRC.out.rise
      obtain ⟨L, hL⟩ : ∃ L, countL lc lf = L := ⟨_, rfl⟩
      rw [hL] at HOKL RC HR2 hcl ⊢
      obtain ⟨n5, hn5⟩ : ∃ n, L.length = n := ⟨_, rfl⟩
      have HN5 := Lib.hid hn5
      rw [hn5] at RC HR2 hcl ⊢
      clear hL hn5
      have zz := blk_lt Blz.out
      have xz0 := cellsAt Blz.out 0
      have xz1 := cellsAt Blz.out 1
      have xz2 := cellsAt Blz.out 2
      have fz := frozAt Blz.out
      simp at xz0 xz1 xz2
      by_cases h64 : 64 < n5
      · have HRR := Lib.hid (show R = (zS, 3) by rw [← HR2.out, if_pos h64])
        have t64 : decide (64 < (n5 : Int)) = true := by simp; omega
        have t64n : decide (64 < n5) = true := by simp; omega
        go_wp2_with fail
        exact bodyPost_ret (v := .tuple #[.agg #[.slice none 0 0, .slice none 0 0, .bool false], .int .i64 3]) (by simp [results, Try.results21, go_sem, xz0, xz1, xz2]) rfl ⟨_, by rw [HRR.out], by rw [HRR.out]; exact zS_at _, bel3 BB10.out (by omega) _ _ _⟩
      · have HRR := Lib.hid (show R = (⟨L, [], false⟩, 0) by rw [← HR2.out, if_neg h64])
        have t64 : decide (64 < (n5 : Int)) = false := by simp; omega
        have t64n : decide (64 < n5) = false := by simp; omega
        go_wp2_with fail
        have Ez := set3 Blz.out (.slice A5 n5 c5) (.slice none 0 0) (.bool false)
        have e0 := cellsAt Ez 0
        have e1 := cellsAt Ez 1
        have e2 := cellsAt Ez 2
        simp at e0 e1 e2
        exact bodyPost_ret (v := .tuple #[.agg #[.slice A5 n5 c5, .slice none 0 0, .bool false], .int .i64 0]) (by simp [results, Try.results21, go_sem, e0, e1, e2]) rfl ⟨_, by rw [HRR.out], by rw [HRR.out]; exact ⟨_, _, rfl, ⟨row_set3 RC.out Blz.out (.slice A5 n5 c5) (.slice none 0 0) (.bool false), HOKL.out, by show L.length ≤ _; rw [HN5.out]; omega⟩, OkRow.none_ _⟩, bel3 BB10.out (by omega) _ _ _⟩
def RrdRel (l : List Cl) (t : ByteArray) (W1 : World) (i : Value) (wr : World) : Prop := ∃ k : Nat, k ≤ l.length ∧ i = .int .i64 k ∧ (∀ x ∈ l.take k, eqB x.n t = false) ∧ Below W1.heap.size W1 wr
theorem get_here {l : List Cl} {t : ByteArray} {k : Nat} {x : Cl} (h : ∀ x ∈ l.take k, eqB x.n t = false) (hx : l[k]? = some x) (he : eqB x.n t = true) : getS l t = some x.b := by
  unfold getS
  obtain ⟨h1, h2⟩ := List.getElem?_eq_some_iff.1 hx
  conv => lhs; rw [← List.take_append_drop k l]
  rw [List.find?_append, List.find?_eq_none.2 (fun y hy => by rw [h y hy]; simp), Option.none_or, drop_at h1, h2, List.find?_cons, he]
  rfl
theorem get_none {l : List Cl} {t : ByteArray} (h : ∀ x ∈ l, eqB x.n t = false) : getS l t = none := by
  unfold getS
  rw [List.find?_eq_none.2 (fun y hy => by rw [h y hy]; simp)]
  rfl
set_option maxRecDepth 100000 in
set_option maxHeartbeats 4000000 in
theorem rread_any (s : St) (t : ByteArray) (v : Value) (w : World) (hs : StAt w v s) :
    Calls Try.prog 23 #[v, .string t] w (RdTo (readS s t) w) := by
  have HS := Lib.hid hs
  obtain ⟨lc, lf, d⟩ := s
  obtain ⟨A, c, A', c', rfl, hv, hu⟩ := hs.form
  simp only at hv hu
  have RL := Lib.hid hv.1
  have RF := Lib.hid hu.1
  have OKL := Lib.hid hv.2.1
  have OKF := Lib.hid hu.2.1
  have hl := hv.2.2
  have hl2 := hu.2.2
  have HV := Lib.hid hv
  have HU := Lib.hid hu
  obtain ⟨m, hm⟩ : ∃ m, lc.length = m := ⟨_, rfl⟩
  obtain ⟨m2, hm2⟩ : ∃ m, lf.length = m := ⟨_, rfl⟩
  obtain ⟨R, hR⟩ : ∃ R, readS ⟨lc, lf, d⟩ t = R := ⟨_, rfl⟩
  rw [hR]
  have HR := Lib.hid hR
  simp only at HV HU ⊢
  rw [hm] at RL HV hl ⊢
  rw [hm2] at RF HU hl2 ⊢
  have Hm := Lib.hid hm
  have Hm2 := Lib.hid hm2
  obtain ⟨q, hq⟩ : ∃ q, rightB lc lf = q := ⟨_, rfl⟩
  have HD := Lib.hid (fun W h1 h2 => rright_any lc lf d (.slice A m c) (.slice A' m2 c') W h1 h2 q hq)
  have HQ := Lib.hid hq
  clear hm hm2 hv hu hR hq hs
  unfold RdTo
  go_enter Try.func23, Try.ntmps23
  go_wp2_with fail
  obtain ⟨W1, hW2⟩ : ∃ X, X = (w).alloc (.cells #[.slice A m c, .slice A' m2 c', .bool d] 24) := ⟨_, rfl⟩
  rw [← hW2]
  have hb3 : Below w.heap.size w W1 := by rw [hW2]; exact bel_alloc (Below.refl _ _) _
  have Ns := Lib.hid (show W1.heap[w.heap.size]? = some (.cells #[.slice A m c, .slice A' m2 c', .bool d] 24 (0, 0)) by rw [hW2]; exact heap_at (w) _ (w.heap.size) (by simp))
  clear hW2
  have BB4 := Lib.hid hb3
  clear hb3
  have Bls := Ns
  clear Ns
  have R1 := Lib.hid (HV.out.below BB4.out)
  have R2 := Lib.hid (HU.out.below BB4.out)
  refine (HD.out _ R1.out R2.out).mono ?_
  rintro e w5 ⟨rfl, hb6⟩
  have Z := Lib.hid (heap_below Bls.out hb6)
  clear Bls
  have Bls := Z
  clear Z
  have Z := Lib.hid (OkRow.below R1.out hb6)
  clear R1
  have R1 := Z
  clear Z
  have Z := Lib.hid (OkRow.below R2.out hb6)
  clear R2
  have R2 := Z
  clear Z
  have BB7 := Lib.hid (bThen BB4.out hb6)
  clear hb6
  have zs := blk_lt Bls.out
  have xs0 := cellsAt Bls.out 0
  have xs1 := cellsAt Bls.out 1
  have xs2 := cellsAt Bls.out 2
  have fs := frozAt Bls.out
  simp at xs0 xs1 xs2
  cases q with
  | false =>
    have HRR := Lib.hid (show R = (⟨#[]⟩, 1) by rw [← HR.out]; unfold readS; simp only; rw [if_neg (by rw [HQ.out]; simp)])
    go_wp2_with fail
    go_ret2
    exact ⟨by rw [HRR.out]; try rfl, BB7.out⟩
  | true =>
    cases d with
    | true =>
      have HRR := Lib.hid (show R = (⟨#[]⟩, 170) by rw [← HR.out]; unfold readS; simp only; rw [if_pos HQ.out, if_pos trivial])
      go_wp2_with fail
      go_ret2
      exact ⟨by rw [HRR.out]; try rfl, BB7.out⟩
    | false =>
      have HR2 := Lib.hid (show (match getS lc t with | some b => (b, (0 : Int)) | none => (⟨#[]⟩, 171)) = R by rw [← HR.out]; unfold readS; rw [if_pos HQ.out]; rfl)
      go_wp2_with fail
      clear zs fs xs0 xs1 xs2
      have R1C := R1
      have BBC := BB7
      go_loopw [16] (fun i wr => RrdRel lc t w5 i wr) (fun i _ => m - (intOf i).toNat)
      case atStart => exact ⟨0, Nat.zero_le _, rfl, by simp, Below.refl _ _⟩
      case round =>
        obtain ⟨k, hk, rfl, hall, hbj⟩ := hrel
        rw [Hm.out] at hk
        have BJ := Lib.hid hbj
        have HALL := Lib.hid hall
        clear hall
        have Z := Lib.hid (heap_below Bls.out hbj)
        clear Bls
        have Bls := Z
        clear Z
        have Z := Lib.hid (OkRow.below R1.out hbj)
        clear R1
        have R1 := Z
        clear Z
        have Z := Lib.hid (OkRow.below R2.out hbj)
        clear R2
        have R2 := Z
        clear Z
        have BB8 := Lib.hid (bThen BB7.out hbj)
        clear hbj
        by_cases hlt : k < m
        · obtain ⟨x, hi⟩ : ∃ x, lc[k]? = some x := ⟨_, List.getElem?_eq_getElem (by rw [Hm.out]; exact hlt)⟩
          have HX := Lib.hid hi
          obtain ⟨b1, o1, c3, e', hc', hb1, hX⟩ := R1.out.1.at_ hi
          injection e' with e1 e2 e3
          clear e2
          subst e1 e3
          have k0 := hX 0 _ rfl
          have k1 := hX 1 _ rfl
          clear hX hi
          simp only [Nat.add_zero] at k0 k1
          obtain ⟨xn, xb⟩ := x
          simp only at k0 k1
          obtain ⟨e, he⟩ : ∃ e, eqB xn t = e := ⟨_, rfl⟩
          have HE := Lib.hid he
          unfold eqB at he
          have BA := Lib.hid (bel_alloc (Below.refl wr.heap.size wr) (.cells #[.string xn, .string xb] 43))
          cases e with
          | true =>
            have HRR := Lib.hid (show R = (xb, 0) by rw [← HR2.out, get_here HALL.out HX.out HE.out])
            go_wp2_with fail
            go_ret2
            exact ⟨by rw [HRR.out]; try rfl, bThen BB8.out BA.out⟩
          | false =>
            go_wp2_with fail
            go_roundw
            case rel => exact ⟨k + 1, by rw [Hm.out]; omega, by go_num, by rw [take_snoc HX.out]; intro y hy; rcases List.mem_append.1 hy with h | h; exact HALL.out y h; simp at h; subst h; exact HE.out, bThen BJ.out BA.out⟩
            case measure => simp [intOf]; omega
        · obtain rfl : k = m := by omega
          have HRR := Lib.hid (show R = (⟨#[]⟩, 171) by rw [← HR2.out, get_none (by have h := HALL.out; rw [List.take_of_length_le (by rw [Hm.out]; exact Nat.le_refl _)] at h; exact h)])
          go_wp2_with fail
          go_ret2
          exact ⟨by rw [HRR.out]; try rfl, BB8.out⟩
/-- What holds at the head of the loop that takes the fresh cells over. -/
def WwRel (W8 : World) (vc : Value) (f : List Cl) (i : Value) (wr : World) : Prop :=
  ∃ (k : Nat) (vf : Value), k ≤ f.length ∧ i = .int .i64 k ∧ wr.heap[W8.heap.size]? = some (.cells #[vc, vf, .bool false] 24 (0, 0)) ∧ OwnC (W8.heap.size + 1) wr vf (f.take k) ∧ Below W8.heap.size W8 wr
set_option maxRecDepth 100000 in
set_option maxHeartbeats 4000000 in
theorem rwrite_any (s : St) (x : Cl) (hx : x.Ok) (v : Value) (w : World) (hs : StAt w v s) :
    Calls Try.prog 20 #[v, .string x.n, .string x.b] w (StTo (writeS s x) w) := by
  have HS := Lib.hid hs
  obtain ⟨lc, lf, d⟩ := s
  obtain ⟨A, c, A', c', rfl, hv, hu⟩ := hs.form
  simp only at hv hu
  have RL := Lib.hid hv.1
  have RF := Lib.hid hu.1
  have OKL := Lib.hid hv.2.1
  have OKF := Lib.hid hu.2.1
  have hl := hv.2.2
  have hl2 := hu.2.2
  have HV := Lib.hid hv
  have HU := Lib.hid hu
  obtain ⟨m, hm⟩ : ∃ m, lc.length = m := ⟨_, rfl⟩
  obtain ⟨m2, hm2⟩ : ∃ m, lf.length = m := ⟨_, rfl⟩
  obtain ⟨R, hR⟩ : ∃ R, writeS ⟨lc, lf, d⟩ x = R := ⟨_, rfl⟩
  rw [hR]
  have HR := Lib.hid hR
  simp only at HV HU ⊢
  rw [hm] at RL HV hl ⊢
  rw [hm2] at RF HU hl2 ⊢
  have Hm := Lib.hid hm
  have Hm2 := Lib.hid hm2
  obtain ⟨q, hq⟩ : ∃ q, rightB lc lf = q := ⟨_, rfl⟩
  obtain ⟨bm, hbm⟩ : ∃ q, mayC x = q := ⟨_, rfl⟩
  have HD := Lib.hid (fun W h1 h2 => rright_any lc lf d (.slice A m c) (.slice A' m2 c') W h1 h2 q hq)
  have HP := Lib.hid (fun W => rmay_any x W bm hbm hx)
  have HQ := Lib.hid hq
  have HM := Lib.hid hbm
  have HXO := Lib.hid hx
  obtain ⟨i0, hi, hi0, hi1, hi2⟩ := info_parts info_cl
  have HI := Lib.hid hi
  have HZ0 := Lib.hid hi0
  have HZ1 := Lib.hid hi1
  have HZ2 := Lib.hid hi2
  clear hm hm2 hv hu hR hq hbm hs hx hi hi0 hi1 hi2
  obtain ⟨xn, xb⟩ := x
  simp only at HP ⊢
  unfold StTo
  go_enter Try.func20, Try.ntmps20
  go_wp2_with fail
  obtain ⟨W1, hW2⟩ : ∃ X, X = (((w).alloc (.cells #[.slice A m c, .slice A' m2 c', .bool d] 24)).alloc (.cells #[.slice none 0 0, .slice none 0 0, .bool false] 24)).alloc (.cells #[.string xn, .string xb] 43) := ⟨_, rfl⟩
  rw [← hW2]
  have hb3 : Below w.heap.size w W1 := by rw [hW2]; exact bel_alloc (bel_alloc (bel_alloc (Below.refl _ _) _) _) _
  have Ns := Lib.hid (show W1.heap[w.heap.size]? = some (.cells #[.slice A m c, .slice A' m2 c', .bool d] 24 (0, 0)) by rw [hW2]; exact heap_below (heap_at (w) _ (w.heap.size) (by simp)) (bel_alloc (bel_alloc (Below.refl _ _) _) _))
  have Nz := Lib.hid (show W1.heap[w.heap.size + 1]? = some (.cells #[.slice none 0 0, .slice none 0 0, .bool false] 24 (0, 0)) by rw [hW2]; exact heap_below (heap_at ((w).alloc (.cells #[.slice A m c, .slice A' m2 c', .bool d] 24)) _ (w.heap.size + 1) (by simp)) (bel_alloc (Below.refl _ _) _))
  have Nc := Lib.hid (show W1.heap[w.heap.size + 1 + 1]? = some (.cells #[.string xn, .string xb] 43 (0, 0)) by rw [hW2]; exact heap_at (((w).alloc (.cells #[.slice A m c, .slice A' m2 c', .bool d] 24)).alloc (.cells #[.slice none 0 0, .slice none 0 0, .bool false] 24)) _ (w.heap.size + 1 + 1) (by simp))
  clear hW2
  have BB4 := Lib.hid hb3
  clear hb3
  have Bls := Ns
  clear Ns
  have Blz := Nz
  clear Nz
  have Blc := Nc
  clear Nc
  have R1 := Lib.hid (HV.out.below BB4.out)
  have R2 := Lib.hid (HU.out.below BB4.out)
  refine (HD.out _ R1.out R2.out).mono ?_
  rintro e w5 ⟨rfl, hb6⟩
  have Z := Lib.hid (heap_below Bls.out hb6)
  clear Bls
  have Bls := Z
  clear Z
  have Z := Lib.hid (heap_below Blz.out hb6)
  clear Blz
  have Blz := Z
  clear Z
  have Z := Lib.hid (heap_below Blc.out hb6)
  clear Blc
  have Blc := Z
  clear Z
  have Z := Lib.hid (OkRow.below R1.out hb6)
  clear R1
  have R1 := Z
  clear Z
  have Z := Lib.hid (OkRow.below R2.out hb6)
  clear R2
  have R2 := Z
  clear Z
  have BB7 := Lib.hid (bThen BB4.out hb6)
  clear hb6
  have zs := blk_lt Bls.out
  have xs0 := cellsAt Bls.out 0
  have xs1 := cellsAt Bls.out 1
  have xs2 := cellsAt Bls.out 2
  have fs := frozAt Bls.out
  simp at xs0 xs1 xs2
  have zz := blk_lt Blz.out
  have xz0 := cellsAt Blz.out 0
  have xz1 := cellsAt Blz.out 1
  have xz2 := cellsAt Blz.out 2
  have fz := frozAt Blz.out
  simp at xz0 xz1 xz2
  have zc := blk_lt Blc.out
  have xc0 := cellsAt Blc.out 0
  have xc1 := cellsAt Blc.out 1
  have fc := frozAt Blc.out
  simp at xc0 xc1
  cases q with
  | false =>
    have HRR := Lib.hid (show R = (zS, 1) by rw [← HR.out]; unfold writeS; simp only; rw [if_neg (by rw [HQ.out]; simp)])
    go_wp2_with fail
    exact bodyPost_ret (v := .tuple #[.agg #[.slice none 0 0, .slice none 0 0, .bool false], .int .i64 1]) (by simp [results, Try.results20, go_sem, xz0, xz1, xz2]) rfl ⟨_, by rw [HRR.out], by rw [HRR.out]; exact zS_at _, bel3 BB7.out (by omega) _ _ _⟩
  | true =>
    go_wp2_with fail
    refine (HP.out _).mono ?_
    rintro e w8 ⟨rfl, hb9⟩
    clear zs fs xs0 xs1 xs2 zz fz xz0 xz1 xz2 zc fc xc0 xc1
    have Z := Lib.hid (heap_below Bls.out hb9)
    clear Bls
    have Bls := Z
    clear Z
    have Z := Lib.hid (heap_below Blz.out hb9)
    clear Blz
    have Blz := Z
    clear Z
    have Z := Lib.hid (heap_below Blc.out hb9)
    clear Blc
    have Blc := Z
    clear Z
    have Z := Lib.hid (OkRow.below R1.out hb9)
    clear R1
    have R1 := Z
    clear Z
    have Z := Lib.hid (OkRow.below R2.out hb9)
    clear R2
    have R2 := Z
    clear Z
    have BB10 := Lib.hid (bThen BB7.out hb9)
    clear hb9
    have zs := blk_lt Bls.out
    have xs0 := cellsAt Bls.out 0
    have xs1 := cellsAt Bls.out 1
    have xs2 := cellsAt Bls.out 2
    have fs := frozAt Bls.out
    simp at xs0 xs1 xs2
    have zz := blk_lt Blz.out
    have xz0 := cellsAt Blz.out 0
    have xz1 := cellsAt Blz.out 1
    have xz2 := cellsAt Blz.out 2
    have fz := frozAt Blz.out
    simp at xz0 xz1 xz2
    have zc := blk_lt Blc.out
    have xc0 := cellsAt Blc.out 0
    have xc1 := cellsAt Blc.out 1
    have fc := frozAt Blc.out
    simp at xc0 xc1
    cases bm with
    | false =>
      have HRR := Lib.hid (show R = (zS, 1) by rw [← HR.out]; unfold writeS; simp only; rw [if_neg (by rw [HQ.out, HM.out]; simp)])
      go_wp2_with fail
      exact bodyPost_ret (v := .tuple #[.agg #[.slice none 0 0, .slice none 0 0, .bool false], .int .i64 1]) (by simp [results, Try.results20, go_sem, xz0, xz1, xz2]) rfl ⟨_, by rw [HRR.out], by rw [HRR.out]; exact zS_at _, bel3 BB10.out (by omega) _ _ _⟩
    | true =>
      have HQM := Lib.hid (show (rightB lc lf && mayC ⟨xn, xb⟩) = true by rw [HQ.out, HM.out]; rfl)
      cases d with
      | true =>
        have HRR := Lib.hid (show R = (zS, 170) by rw [← HR.out]; unfold writeS; simp only; rw [if_pos HQM.out, if_pos trivial])
        go_wp2_with fail
        exact bodyPost_ret (v := .tuple #[.agg #[.slice none 0 0, .slice none 0 0, .bool false], .int .i64 170]) (by simp [results, Try.results20, go_sem, xz0, xz1, xz2]) rfl ⟨_, by rw [HRR.out], by rw [HRR.out]; exact zS_at _, bel3 BB10.out (by omega) _ _ _⟩
      | false =>
        have hm264 : m2 ≤ 64 := by rw [← Hm2.out]; exact (right_iff.1 HQ.out).flen
        by_cases h64 : m2 = 64
        · subst h64
          have HRR := Lib.hid (show R = (zS, 3) by rw [← HR.out]; unfold writeS; simp only; rw [if_pos HQM.out, if_neg (by simp), if_pos (by rw [Hm2.out]; exact Nat.le_refl _)])
          go_wp2_with fail
          exact bodyPost_ret (v := .tuple #[.agg #[.slice none 0 0, .slice none 0 0, .bool false], .int .i64 3]) (by simp [results, Try.results20, go_sem, xz0, xz1, xz2]) rfl ⟨_, by rw [HRR.out], by rw [HRR.out]; exact zS_at _, bel3 BB10.out (by omega) _ _ _⟩
        · have HRR := Lib.hid (show R = (⟨lc, lf ++ [⟨xn, xb⟩], false⟩, 0) by rw [← HR.out]; unfold writeS; simp only; rw [if_pos HQM.out, if_neg (by simp), if_neg (by rw [Hm2.out]; omega)])
          have t64 : ((m2 : Int) == 64) = false := beq_eq_false_iff_ne.2 (by omega)
          have t64n : decide ((m2 : Int) = 64) = false := decide_eq_false (by omega)
          go_upto_region 9 with fail
          have BlzC := Blz
          have BlcC := Blc
          have BlsC := Bls
          have R2C := R2
          have R1C := R1
          have BBC := BB10
          obtain ⟨W11, hW12⟩ : ∃ X, X = (w8).alloc (.cells #[.slice A m c, .slice none 0 0, .bool false] 24) := ⟨_, rfl⟩
          rw [← hW12]
          have hb13 : Below w8.heap.size w8 W11 := by rw [hW12]; exact bel_alloc (Below.refl _ _) _
          have HB89 := Lib.hid hb13
          have No := Lib.hid (show W11.heap[w8.heap.size]? = some (.cells #[.slice A m c, .slice none 0 0, .bool false] 24 (0, 0)) by rw [hW12]; exact heap_at (w8) _ (w8.heap.size) (by simp))
          clear hW12
          have Z := Lib.hid (heap_below Bls.out hb13)
          clear Bls
          have Bls := Z
          clear Z
          have Z := Lib.hid (heap_below Blz.out hb13)
          clear Blz
          have Blz := Z
          clear Z
          have Z := Lib.hid (heap_below Blc.out hb13)
          clear Blc
          have Blc := Z
          clear Z
          have Z := Lib.hid (OkRow.below R1.out hb13)
          clear R1
          have R1 := Z
          clear Z
          have Z := Lib.hid (OkRow.below R2.out hb13)
          clear R2
          have R2 := Z
          clear Z
          have BB14 := Lib.hid (bThen BB10.out hb13)
          clear hb13
          have Blo := No
          clear No
          clear zs fs xs0 xs1 xs2 zz fz xz0 xz1 xz2 zc fc xc0 xc1
          have zs := blk_lt Bls.out
          have xs0 := cellsAt Bls.out 0
          have xs1 := cellsAt Bls.out 1
          have xs2 := cellsAt Bls.out 2
          have fs := frozAt Bls.out
          simp at xs0 xs1 xs2
          go_wp2_with fail
          clear zs fs xs0 xs1 xs2
          have hzz : w.heap.size + 3 ≤ w8.heap.size := by have := blk_lt BlcC.out; omega
          have hbo : w8.heap.size < W11.heap.size := blk_lt Blo.out
          have hb9s : w8.heap.size + 1 ≤ W11.heap.size := hbo
          go_loopw [38] (fun i wr => WwRel w8 (.slice A m c) lf i wr) (fun i _ => m2 - (intOf i).toNat)
          case atStart => exact ⟨0, _, Nat.zero_le _, rfl, Blo.out, World.ownsRow_nil _ _ _ _, HB89.out⟩
          case round =>
            clear Bls Blz Blc Blo R1 R2 BB14
            obtain ⟨k, vf, hk, rfl, hbo2, hown, hbk⟩ := hrel
            rw [Hm2.out] at hk
            obtain ⟨A5, c5, rfl⟩ := own_slice hown
            have HO := Lib.hid (show wr.ownsRow (w8.heap.size + 1) 43 2 (.slice A5 k c5) k ((lf.take k).flatMap Cl.cs) by unfold OwnC at hown; rw [List.length_take, Hm2.out, Nat.min_eq_left hk] at hown; exact hown)
            rw [List.length_take, Hm2.out, Nat.min_eq_left hk] at hbo2
            have Blo := Lib.hid hbo2
            have HBK := Lib.hid hbk
            have Blz := Lib.hid (heap_below BlzC.out hbk)
            have Blc := Lib.hid (heap_below BlcC.out hbk)
            have R2 := Lib.hid (R2C.out.below hbk)
            have BB0 := Lib.hid (bThen BBC.out hbk)
            have hszk := blk_lt hbo2
            clear hbo2 hown hbk
            by_cases hlt : k < m2
            · obtain ⟨y, hi⟩ : ∃ y, lf[k]? = some y := ⟨_, List.getElem?_eq_getElem (by rw [Hm2.out]; exact hlt)⟩
              have HY := Lib.hid hi
              obtain ⟨b1, o1, c6, e', hc', hb1, hX⟩ := R2.out.1.at_ hi
              injection e' with e1 e2 e3
              clear e2
              subst e1 e3
              have k0 := hX 0 _ rfl
              have k1 := hX 1 _ rfl
              clear hX hi
              simp only [Nat.add_zero] at k0 k1
              obtain ⟨yn, yb⟩ := y
              simp only at k0 k1
              go_upto_region 12 with fail
              obtain ⟨W15, hW16⟩ : ∃ X, X = (wr).alloc (.cells #[.string yn, .string yb] 43) := ⟨_, rfl⟩
              rw [← hW16]
              have hb17 : Below wr.heap.size wr W15 := by rw [hW16]; exact bel_alloc (Below.refl _ _) _
              have HBY := Lib.hid (HBK.out.trans (hb17.mono (by omega : w8.heap.size ≤ wr.heap.size)))
              have HO2 := Lib.hid (own_below HO.out hb17)
              have Ny := Lib.hid (show W15.heap[wr.heap.size]? = some (.cells #[.string yn, .string yb] 43 (0, 0)) by rw [hW16]; exact heap_at (wr) _ (wr.heap.size) (by simp))
              clear hW16
              have Z := Lib.hid (heap_below Blz.out hb17)
              clear Blz
              have Blz := Z
              clear Z
              have Z := Lib.hid (heap_below Blc.out hb17)
              clear Blc
              have Blc := Z
              clear Z
              have Z := Lib.hid (heap_below Blo.out hb17)
              clear Blo
              have Blo := Z
              clear Z
              have Z := Lib.hid (OkRow.below R2.out hb17)
              clear R2
              have R2 := Z
              clear Z
              have BB18 := Lib.hid (bThen BB0.out hb17)
              clear hb17
              have Bly := Ny
              clear Ny
              have zo := blk_lt Blo.out
              have xo0 := cellsAt Blo.out 0
              have xo1 := cellsAt Blo.out 1
              have xo2 := cellsAt Blo.out 2
              have fo := frozAt Blo.out
              simp at xo0 xo1 xo2
              have zy := blk_lt Bly.out
              have xy0 := cellsAt Bly.out 0
              have xy1 := cellsAt Bly.out 1
              have fy := frozAt Bly.out
              simp at xy0 xy1
              have hsy : w8.heap.size + 1 ≤ W15.heap.size := by have := blk_lt Blo.out; omega
              go_wp2_with (at_builtin; refine wpList_push _ rfl _ _ 22 rfl (w8.heap.size + 1) 43 i0 (.agg #[.string ⟨#[]⟩, .string ⟨#[]⟩]) 2 32 Try.underlying22 HI.out HZ0.out HZ1.out HZ2.out rfl (by decide) _ _ _ rfl HO2.out #[.string yn, .string yb] 43 rfl rfl (by intro u hu; simp at hu; rcases hu with rfl | rfl <;> rfl) (by unfold maxLen; omega) (by omega) hsy ?_)
              intro v7 w7 hown7 hb7 hk7
              obtain ⟨A7, c7, rfl⟩ := own_slice hown7
              have HO7 := Lib.hid (own_push2 (l := lf.take (k + 1)) hown7 (by rw [take_snoc HY.out, List.flatMap_append]; rfl))
              have NO := Lib.hid ((hb7.block w8.heap.size (by omega)).trans Blo.out)
              have HB7 := Lib.hid (HBY.out.trans (hb7.mono (by omega : w8.heap.size ≤ w8.heap.size + 1)))
              clear hown7 hb7 hk7 k0 k1
              clear zo fo xo0 xo1 xo2 zy fy xy0 xy1
              have n0 := cellsAt NO.out 0
              have n1 := cellsAt NO.out 1
              have nf := frozAt NO.out
              have nz := blk_lt NO.out
              simp at n0 n1
              go_wp2_with fail
              go_roundw
              case rel => exact ⟨k + 1, .slice A7 (k + 1) c7, by rw [Hm2.out]; omega, by go_num, by have h := blk_set NO.out 1 (.slice A7 (k + 1) c7); simpa using h, by unfold OwnC; rw [List.length_take, Hm2.out, Nat.min_eq_left (by omega)]; exact own_set HO7.out (by show w8.heap.size < _; omega) _, HB7.out.setCell (p := ⟨w8.heap.size, 1, none⟩) (Nat.le_refl _) _⟩
              case measure => simp [intOf]; omega
            · obtain rfl : k = m2 := by omega
              rw [show lf.take k = lf from List.take_of_length_le (by rw [Hm2.out]; exact Nat.le_refl _)] at HO
              have zz := blk_lt Blz.out
              have xz0 := cellsAt Blz.out 0
              have xz1 := cellsAt Blz.out 1
              have xz2 := cellsAt Blz.out 2
              have fz := frozAt Blz.out
              simp at xz0 xz1 xz2
              have zc := blk_lt Blc.out
              have xc0 := cellsAt Blc.out 0
              have xc1 := cellsAt Blc.out 1
              have fc := frozAt Blc.out
              simp at xc0 xc1
              have zo := blk_lt Blo.out
              have xo0 := cellsAt Blo.out 0
              have xo1 := cellsAt Blo.out 1
              have xo2 := cellsAt Blo.out 2
              have fo := frozAt Blo.out
              simp at xo0 xo1 xo2
              have hsy : w8.heap.size + 1 ≤ wr.heap.size := by have := blk_lt Blo.out; omega
              go_wp2_with (at_builtin; refine wpList_push _ rfl _ _ 22 rfl (w8.heap.size + 1) 43 i0 (.agg #[.string ⟨#[]⟩, .string ⟨#[]⟩]) 2 32 Try.underlying22 HI.out HZ0.out HZ1.out HZ2.out rfl (by decide) _ _ _ rfl HO.out #[.string xn, .string xb] 43 rfl rfl (by intro u hu; simp at hu; rcases hu with rfl | rfl <;> rfl) (by unfold maxLen; omega) (by omega) hsy ?_)
              intro v7 w7 hown7 hb7 hk7
              obtain ⟨A7, c7, rfl⟩ := own_slice hown7
              have HO7 := Lib.hid (own_push2 (l := lf ++ [⟨xn, xb⟩]) hown7 (by rw [List.flatMap_append]; rfl))
              have NO := Lib.hid ((hb7.block w8.heap.size (by omega)).trans Blo.out)
              have NZ := Lib.hid ((hb7.block (w.heap.size + 1) (by omega)).trans Blz.out)
              have HB7 := Lib.hid (HBK.out.trans (hb7.mono (by omega : w8.heap.size ≤ w8.heap.size + 1)))
              clear hown7 hb7 hk7
              clear zz fz xz0 xz1 xz2 zc fc xc0 xc1 zo fo xo0 xo1 xo2
              have n0 := cellsAt NO.out 0
              have n1 := cellsAt NO.out 1
              have n2 := cellsAt NO.out 2
              have nf := frozAt NO.out
              have nz := blk_lt NO.out
              have z0 := cellsAt NZ.out 0
              have z1 := cellsAt NZ.out 1
              have z2 := cellsAt NZ.out 2
              have zf := frozAt NZ.out
              have zz := blk_lt NZ.out
              simp at n0 n1 n2 z0 z1 z2
              go_upto_region 15 with fail
              have P0 := Lib.hid (show (w7.setCell ⟨w8.heap.size, 1, none⟩ (.slice A7 (k + 1) c7)).heap[w8.heap.size]? = some (.cells #[.slice A m c, .slice A7 (k + 1) c7, .bool false] 24 (0, 0)) by have h := blk_set NO.out 1 (.slice A7 (k + 1) c7); simpa using h)
              have P2 := Lib.hid ((Below.heap_setCell w7 ⟨w8.heap.size, 1, none⟩ (.slice A7 (k + 1) c7) (w.heap.size + 1) (by show w.heap.size + 1 ≠ w8.heap.size; omega)).trans NZ.out)
              have BS := Lib.hid (HB7.out.setCell (p := ⟨w8.heap.size, 1, none⟩) (Nat.le_refl _) (.slice A7 (k + 1) c7))
              have HO6 := Lib.hid (own_set HO7.out (p := ⟨w8.heap.size, 1, none⟩) (by show w8.heap.size < _; omega) (.slice A7 (k + 1) c7))
              clear n0 n1 n2 nf nz z0 z1 z2 zf zz NO NZ HB7 HO7
              generalize w7.setCell ⟨w8.heap.size, 1, none⟩ (.slice A7 (k + 1) c7) = W6 at *
              have n0 := cellsAt P0.out 0
              have n1 := cellsAt P0.out 1
              have n2 := cellsAt P0.out 2
              have nf := frozAt P0.out
              have nz := blk_lt P0.out
              have z0 := cellsAt P2.out 0
              have z1 := cellsAt P2.out 1
              have z2 := cellsAt P2.out 2
              have zf := frozAt P2.out
              have zz := blk_lt P2.out
              simp at n0 n1 n2 z0 z1 z2
              go_wp2_with fail
              have Ez := set3 P2.out (.slice A m c) (.slice A7 (k + 1) c7) (.bool false)
              have BE := Lib.hid (bel3 (bThen BBC.out BS.out) (g := w.heap.size + 1) (by omega) (.slice A m c) (.slice A7 (k + 1) c7) (.bool false))
              have HO9 := Lib.hid (own3 HO6.out (g := w.heap.size + 1) (by show w.heap.size + 1 < _; omega) (.slice A m c) (.slice A7 (k + 1) c7) (.bool false))
              clear n0 n1 n2 nf nz z0 z1 z2 zf zz
              generalize (((W6.setCell ⟨w.heap.size + 1, 0, none⟩ (.slice A m c)).setCell ⟨w.heap.size + 1, 1, none⟩ (.slice A7 (k + 1) c7)).setCell ⟨w.heap.size + 1, 2, none⟩ (.bool false)) = W7 at *
              have e0 := cellsAt Ez 0
              have e1 := cellsAt Ez 1
              have e2 := cellsAt Ez 2
              simp at e0 e1 e2
              have hok : ∀ y ∈ lf ++ [(⟨xn, xb⟩ : Cl)], y.Ok := by
                intro y hy
                rcases List.mem_append.1 hy with h | h
                · exact OKF.out y h
                · simp at h; subst h; exact HXO.out
              have hat : StAt W7 (.agg #[.slice A m c, .slice A7 (k + 1) c7, .bool false]) ⟨lc, lf ++ [⟨xn, xb⟩], false⟩ := ⟨_, _, rfl, HV.out.below BE.out, ⟨Row.of_own Cl.cs_len HO9.out (by simp [Hm2.out]), hok, by show (lf ++ [_]).length ≤ _; rw [List.length_append, Hm2.out]; simp; omega⟩⟩
              exact bodyPost_ret (v := .tuple #[.agg #[.slice A m c, .slice A7 (k + 1) c7, .bool false], .int .i64 0]) (by simp [results, Try.results20, go_sem, e0, e1, e2]) rfl ⟨_, by rw [HRR.out], by rw [HRR.out]; exact hat, BE.out⟩
end Go.Proofs.Ytlboehpgpbchhaa
