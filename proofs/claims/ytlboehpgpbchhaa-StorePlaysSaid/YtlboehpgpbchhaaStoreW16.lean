/-
  WALKS of layer 17: the law StoreWhole.
-/
import Derived.Test.YtlboehpgpbchhaaStoreP2
set_option linter.unusedVariables false
set_option linter.unusedSimpArgs false
namespace Go.Proofs.Ytlboehpgpbchhaa
open Go.RowKit

theorem keepW {W w' w'' : World} {g0 g1 : Nat} {a00 a01 a02 a10 a11 a12 : Value} (hg0 : g0 < W.heap.size) (hg1 : g1 < W.heap.size) (h : Below W.heap.size W w' ∧ w'.cell? ⟨g0, 0, none⟩ = some a00 ∧ w'.cell? ⟨g0, 1, none⟩ = some a01 ∧ w'.cell? ⟨g0, 2, none⟩ = some a02 ∧ w'.cell? ⟨g1, 0, none⟩ = some a10 ∧ w'.cell? ⟨g1, 1, none⟩ = some a11 ∧ w'.cell? ⟨g1, 2, none⟩ = some a12) (hb : Below w'.heap.size w' w'') : Below W.heap.size W w'' ∧ w''.cell? ⟨g0, 0, none⟩ = some a00 ∧ w''.cell? ⟨g0, 1, none⟩ = some a01 ∧ w''.cell? ⟨g0, 2, none⟩ = some a02 ∧ w''.cell? ⟨g1, 0, none⟩ = some a10 ∧ w''.cell? ⟨g1, 1, none⟩ = some a11 ∧ w''.cell? ⟨g1, 2, none⟩ = some a12 := by
  obtain ⟨b, c0, c1, c2, c3, c4, c5⟩ := h
  have hs := b.size
  exact ⟨b.trans (hb.mono hs), (hb.cell (p := ⟨g0, 0, none⟩) (Nat.lt_of_lt_of_le hg0 hs)).trans c0, (hb.cell (p := ⟨g0, 1, none⟩) (Nat.lt_of_lt_of_le hg0 hs)).trans c1, (hb.cell (p := ⟨g0, 2, none⟩) (Nat.lt_of_lt_of_le hg0 hs)).trans c2, (hb.cell (p := ⟨g1, 0, none⟩) (Nat.lt_of_lt_of_le hg1 hs)).trans c3, (hb.cell (p := ⟨g1, 1, none⟩) (Nat.lt_of_lt_of_le hg1 hs)).trans c4, (hb.cell (p := ⟨g1, 2, none⟩) (Nat.lt_of_lt_of_le hg1 hs)).trans c5⟩
theorem keepWD {W w' : World} {g0 g1 : Nat} {a00 a01 a02 a10 a11 a12 : Value} (h : Below W.heap.size W w' ∧ w'.cell? ⟨g0, 0, none⟩ = some a00 ∧ w'.cell? ⟨g0, 1, none⟩ = some a01 ∧ w'.cell? ⟨g0, 2, none⟩ = some a02 ∧ w'.cell? ⟨g1, 0, none⟩ = some a10 ∧ w'.cell? ⟨g1, 1, none⟩ = some a11 ∧ w'.cell? ⟨g1, 2, none⟩ = some a12) : Below W.heap.size W w'.drew ∧ w'.drew.cell? ⟨g0, 0, none⟩ = some a00 ∧ w'.drew.cell? ⟨g0, 1, none⟩ = some a01 ∧ w'.drew.cell? ⟨g0, 2, none⟩ = some a02 ∧ w'.drew.cell? ⟨g1, 0, none⟩ = some a10 ∧ w'.drew.cell? ⟨g1, 1, none⟩ = some a11 ∧ w'.drew.cell? ⟨g1, 2, none⟩ = some a12 := ⟨h.1.drew, h.2⟩
theorem StAt.lens {W : World} {A1 A2 : Option Addr} {n1 n2 c1 c2 : Nat} {d : Bool} {s : St} (h : StAt W (.agg #[.slice A1 n1 c1, .slice A2 n2 c2, .bool d]) s) : n1 = s.c.length ∧ n2 = s.f.length := by
  obtain ⟨h1, h2⟩ := h.rows
  obtain ⟨⟨_, _, e1, -⟩, -, -⟩ := h1
  obtain ⟨⟨_, _, e2, -⟩, -, -⟩ := h2
  injection e1 with _ e1 _
  injection e2 with _ e2 _
  exact ⟨e1, e2⟩
set_option maxRecDepth 100000 in
set_option maxHeartbeats 8000000 in
theorem whole_walk (s : St) (l : List Cl) (left : Int) (v u : Value) (w : World) (hs : StIn w v s) (hl : ClIn w u l) :
    Calls Try.prog 8 #[v, u, .int .i64 left] w fun e w' => e = .returned (.bool true) ∧ Below w.heap.size w w' := by
  have HS := Lib.hid hs
  obtain ⟨A, c, A', c', rfl⟩ := hs.form
  have HSM := Lib.hid (fun W h q hq => small_any s (.agg #[.slice A s.c.length c, .slice A' s.f.length c', .bool s.d]) W h q hq)
  have HAL := Lib.hid alive_any
  obtain ⟨q, hq⟩ : ∃ q, smallS s = q := ⟨_, rfl⟩
  have HQ := Lib.hid hq
  obtain ⟨m, hm⟩ : ∃ m, s.c.length = m := ⟨_, rfl⟩
  obtain ⟨m2, hm2⟩ : ∃ m, s.f.length = m := ⟨_, rfl⟩
  obtain ⟨d, hd⟩ : ∃ d, s.d = d := ⟨_, rfl⟩
  rw [hm, hm2, hd] at HS HSM ⊢
  have Hd := Lib.hid hd
  have Hm2 := Lib.hid hm2
  clear hs hq hm hm2 hd
  have HL := Lib.hid hl
  obtain ⟨⟨A3, c3, rfl, -⟩, -, hln⟩ := hl
  obtain ⟨n, hn⟩ : ∃ n, l.length = n := ⟨_, rfl⟩
  have Hn := Lib.hid hn
  rw [hn] at HL hln ⊢
  unfold maxLen at hln
  obtain ⟨rq, hrq⟩ : ∃ q, rightB s.c s.f = q := ⟨_, rfl⟩
  have HRQ := Lib.hid hrq
  have HR := Lib.hid (fun W (h : StAt W (.agg #[.slice A m c, .slice A' m2 c', .bool d]) s) => sright_any s.c s.f d _ _ W h.rows.1 h.rows.2 rq hrq)
  clear hn hrq
  go_enter Try.func8, Try.ntmps8
  go_wp2_with fail
  have KI := HS
  have R3 := HL
  obtain ⟨W1, hW2⟩ : ∃ X, X = (w).alloc (.cells #[.slice A m c, .slice A' m2 c', .bool d] 24) := ⟨_, rfl⟩
  rw [← hW2]
  have hb3 : Below w.heap.size w W1 := by rw [hW2]; exact bel_alloc (Below.refl _ _) _
  have Ns := Lib.hid (show W1.heap[w.heap.size]? = some (.cells #[.slice A m c, .slice A' m2 c', .bool d] 24 (0, 0)) by rw [hW2]; exact heap_at (w) _ (w.heap.size) (by simp))
  clear hW2
  have BB4 := Lib.hid hb3
  clear hb3
  have Bls := Ns
  clear Ns
  have Z := Lib.hid (StIn.below KI.out BB4.out)
  clear KI
  have KI := Z
  clear Z
  have Z := Lib.hid (ClIn.below R3.out BB4.out)
  clear R3
  have R3 := Z
  clear Z
  refine (HSM.out _ KI.out q HQ.out).mono ?_
  rintro e w5 ⟨rfl, hb6⟩
  have Z := Lib.hid (heap_below Bls.out hb6)
  clear Bls
  have Bls := Z
  clear Z
  have Z := Lib.hid (StIn.below KI.out hb6)
  clear KI
  have KI := Z
  clear Z
  have Z := Lib.hid (ClIn.below R3.out hb6)
  clear R3
  have R3 := Z
  clear Z
  have BB7 := Lib.hid (bThen BB4.out hb6)
  clear hb6
  have zs := blk_lt Bls.out
  have xs0 := cellsAt Bls.out 0
  have xs1 := cellsAt Bls.out 1
  have xs2 := cellsAt Bls.out 2
  have fs := frozAt Bls.out
  simp at xs0 xs1 xs2
  cases q with
  | false =>
    go_wp2_with fail
    refine (HAL.out _).mono ?_
    rintro e w8 ⟨rfl, hb9⟩
    clear zs fs xs0 xs1 xs2
    have Z := Lib.hid (heap_below Bls.out hb9)
    clear Bls
    have Bls := Z
    clear Z
    have Z := Lib.hid (StIn.below KI.out hb9)
    clear KI
    have KI := Z
    clear Z
    have Z := Lib.hid (ClIn.below R3.out hb9)
    clear R3
    have R3 := Z
    clear Z
    have BB10 := Lib.hid (bThen BB7.out hb9)
    clear hb9
    go_wp2_with fail
    go_ret
    exact ⟨rfl, BB10.out⟩
  | true =>
    by_cases h100 : 100 < n
    · have t1 : decide (100 < (n : Int)) = true := by simp; omega
      have t1n : decide (100 < n) = true := by simp; omega
      go_wp2_with fail
      refine (HAL.out _).mono ?_
      rintro e w8 ⟨rfl, hb9⟩
      clear zs fs xs0 xs1 xs2
      have Z := Lib.hid (heap_below Bls.out hb9)
      clear Bls
      have Bls := Z
      clear Z
      have Z := Lib.hid (StIn.below KI.out hb9)
      clear KI
      have KI := Z
      clear Z
      have Z := Lib.hid (ClIn.below R3.out hb9)
      clear R3
      have R3 := Z
      clear Z
      have BB10 := Lib.hid (bThen BB7.out hb9)
      clear hb9
      go_wp2_with fail
      go_ret
      exact ⟨rfl, BB10.out⟩
    · have t1 : decide (100 < (n : Int)) = false := by simp; omega
      have t1n : decide (100 < n) = false := by simp; omega
      have Kp := Lib.hid (KI.out.small HQ.out)
      have Ku := Lib.hid (R3.out.ok (by rw [Hn.out]; omega))
      clear KI R3
      go_wp2_with fail
      refine (HR.out _ Kp.out).mono ?_
      rintro e w8 ⟨rfl, hb9⟩
      clear zs fs xs0 xs1 xs2
      have Z := Lib.hid (heap_below Bls.out hb9)
      clear Bls
      have Bls := Z
      clear Z
      have Z := Lib.hid (StAt.below Kp.out hb9)
      clear Kp
      have Kp := Z
      clear Z
      have Z := Lib.hid (OkRow.below Ku.out hb9)
      clear Ku
      have Ku := Z
      clear Z
      have BB10 := Lib.hid (bThen BB7.out hb9)
      clear hb9
      have zs := blk_lt Bls.out
      have xs0 := cellsAt Bls.out 0
      have xs1 := cellsAt Bls.out 1
      have xs2 := cellsAt Bls.out 2
      have fs := frozAt Bls.out
      simp at xs0 xs1 xs2
      cases rq with
      | false =>
        go_wp2_with fail
        refine (HAL.out _).mono ?_
        rintro e w11 ⟨rfl, hb12⟩
        clear zs fs xs0 xs1 xs2
        have Z := Lib.hid (heap_below Bls.out hb12)
        clear Bls
        have Bls := Z
        clear Z
        have Z := Lib.hid (StAt.below Kp.out hb12)
        clear Kp
        have Kp := Z
        clear Z
        have Z := Lib.hid (OkRow.below Ku.out hb12)
        clear Ku
        have Ku := Z
        clear Z
        have BB13 := Lib.hid (bThen BB10.out hb12)
        clear hb12
        go_wp2_with fail
        go_ret
        exact ⟨rfl, BB13.out⟩
      | true =>
        cases d with
        | true =>
          go_wp2_with fail
          refine (HAL.out _).mono ?_
          rintro e w11 ⟨rfl, hb12⟩
          clear zs fs xs0 xs1 xs2
          have Z := Lib.hid (heap_below Bls.out hb12)
          clear Bls
          have Bls := Z
          clear Z
          have Z := Lib.hid (StAt.below Kp.out hb12)
          clear Kp
          have Kp := Z
          clear Z
          have Z := Lib.hid (OkRow.below Ku.out hb12)
          clear Ku
          have Ku := Z
          clear Z
          have BB13 := Lib.hid (bThen BB10.out hb12)
          clear hb12
          go_wp2_with fail
          go_ret
          exact ⟨rfl, BB13.out⟩
        | false =>
          by_cases h0 : 0 < m2
          · have t0 : decide (0 < (m2 : Int)) = true := by simp; omega
            have t0n : decide (0 < m2) = true := by simp; omega
            go_wp2_with fail
            refine (HAL.out _).mono ?_
            rintro e w11 ⟨rfl, hb12⟩
            clear zs fs xs0 xs1 xs2
            have Z := Lib.hid (heap_below Bls.out hb12)
            clear Bls
            have Bls := Z
            clear Z
            have Z := Lib.hid (StAt.below Kp.out hb12)
            clear Kp
            have Kp := Z
            clear Z
            have Z := Lib.hid (OkRow.below Ku.out hb12)
            clear Ku
            have Ku := Z
            clear Z
            have BB13 := Lib.hid (bThen BB10.out hb12)
            clear hb12
            go_wp2_with fail
            go_ret
            exact ⟨rfl, BB13.out⟩
          · have hfn : s.f = [] := List.eq_nil_of_length_eq_zero (by rw [Hm2.out]; omega)
            obtain rfl : m2 = 0 := by omega
            clear h0
            have hss : s = ⟨s.c, [], false⟩ := by rw [← hfn, ← Hd.out]
            have hrr : rightB s.c [] = true := by rw [← hfn]; exact HRQ.out
            have HSS := Lib.hid hss
            have HRR := Lib.hid hrr
            have HBA := Lib.hid (fun W v u h1 h2 => batch_any s l left v u W h1 h2)
            have hbr := batch_res (l := l) (left := left) hrr
            rw [← hss] at hbr
            clear hss hrr hfn
            go_upto_region 3 with fail
            rcases hbr with ⟨j, hj, rfl, hb, hrj⟩ | ⟨hb, hrc⟩ | hb | hb
            clear zs fs xs0 xs1 xs2
            have zs := blk_lt Bls.out
            have xs0 := cellsAt Bls.out 0
            have xs1 := cellsAt Bls.out 1
            have xs2 := cellsAt Bls.out 2
            have fs := frozAt Bls.out
            simp at xs0 xs1 xs2
            · have HA := Lib.hid (fun W v u h1 h2 => ans_of (HBA.out W v u h1 h2) hb)
              have HST := Lib.hid (fun W v h => ans_of (start_any ⟨s.c, l.take j, true⟩ v W h) (start_yes hrj))
              unfold AnsTo at HA HST
              simp only at HA HST
              clear hb hrj HBA
              rw [Hn.out] at hj
              have tj0 : decide ((0 : Int) ≤ (j : Int)) = true := by simp
              have tj1 : decide ((j : Int) ≤ (n : Int)) = true := by simp; omega
              have tj2 : decide (j ≤ n) = true := by simp; omega
              go_wp2_with fail
              refine (HA.out _ _ _ Kp.out Ku.out).mono ?_
              rintro e w11 ⟨A1a, n1a, c1a, A2a, n2a, c2a, rfl, hka, hb12⟩
              clear zs fs xs0 xs1 xs2
              have Z := Lib.hid (heap_below Bls.out hb12)
              clear Bls
              have Bls := Z
              clear Z
              have Z := Lib.hid (StAt.below Kp.out hb12)
              clear Kp
              have Kp := Z
              clear Z
              have Z := Lib.hid (OkRow.below Ku.out hb12)
              clear Ku
              have Ku := Z
              clear Z
              have BB13 := Lib.hid (bThen BB10.out hb12)
              clear hb12
              have Ka := Lib.hid hka
              clear hka
              go_upto_region 4 with fail
              obtain ⟨W14, hW15⟩ : ∃ X, X = (w11).alloc (.cells #[.slice A1a n1a c1a, .slice A2a n2a c2a, .bool true] 24) := ⟨_, rfl⟩
              rw [← hW15]
              have hb16 : Below w11.heap.size w11 W14 := by rw [hW15]; exact bel_alloc (Below.refl _ _) _
              have Na := Lib.hid (show W14.heap[w11.heap.size]? = some (.cells #[.slice A1a n1a c1a, .slice A2a n2a c2a, .bool true] 24 (0, 0)) by rw [hW15]; exact heap_at (w11) _ (w11.heap.size) (by simp))
              clear hW15
              have Z := Lib.hid (heap_below Bls.out hb16)
              clear Bls
              have Bls := Z
              clear Z
              have Z := Lib.hid (StAt.below Kp.out hb16)
              clear Kp
              have Kp := Z
              clear Z
              have Z := Lib.hid (OkRow.below Ku.out hb16)
              clear Ku
              have Ku := Z
              clear Z
              have Z := Lib.hid (StAt.below Ka.out hb16)
              clear Ka
              have Ka := Z
              clear Z
              have BB17 := Lib.hid (bThen BB13.out hb16)
              clear hb16
              have Bla := Na
              clear Na
              have za := blk_lt Bla.out
              have xa0 := cellsAt Bla.out 0
              have xa1 := cellsAt Bla.out 1
              have xa2 := cellsAt Bla.out 2
              have fa := frozAt Bla.out
              simp at xa0 xa1 xa2
              go_wp2_with fail
              refine (HST.out _ _ Ka.out).mono ?_
              rintro e w18 ⟨A1b, n1b, c1b, A2b, n2b, c2b, rfl, hkb, hb19⟩
              clear za fa xa0 xa1 xa2
              have Z := Lib.hid (heap_below Bls.out hb19)
              clear Bls
              have Bls := Z
              clear Z
              have Z := Lib.hid (heap_below Bla.out hb19)
              clear Bla
              have Bla := Z
              clear Z
              have Z := Lib.hid (StAt.below Kp.out hb19)
              clear Kp
              have Kp := Z
              clear Z
              have Z := Lib.hid (OkRow.below Ku.out hb19)
              clear Ku
              have Ku := Z
              clear Z
              have Z := Lib.hid (StAt.below Ka.out hb19)
              clear Ka
              have Ka := Z
              clear Z
              have BB20 := Lib.hid (bThen BB17.out hb19)
              clear hb19
              have Kb := Lib.hid hkb
              clear hkb
              go_upto_region 9 with fail
              obtain ⟨W21, hW22⟩ : ∃ X, X = (w18).alloc (.cells #[.slice A1b n1b c1b, .slice A2b n2b c2b, .bool false] 24) := ⟨_, rfl⟩
              rw [← hW22]
              have hb23 : Below w18.heap.size w18 W21 := by rw [hW22]; exact bel_alloc (Below.refl _ _) _
              have Nb := Lib.hid (show W21.heap[w18.heap.size]? = some (.cells #[.slice A1b n1b c1b, .slice A2b n2b c2b, .bool false] 24 (0, 0)) by rw [hW22]; exact heap_at (w18) _ (w18.heap.size) (by simp))
              clear hW22
              have Z := Lib.hid (heap_below Bls.out hb23)
              clear Bls
              have Bls := Z
              clear Z
              have Z := Lib.hid (heap_below Bla.out hb23)
              clear Bla
              have Bla := Z
              clear Z
              have Z := Lib.hid (StAt.below Kp.out hb23)
              clear Kp
              have Kp := Z
              clear Z
              have Z := Lib.hid (OkRow.below Ku.out hb23)
              clear Ku
              have Ku := Z
              clear Z
              have Z := Lib.hid (StAt.below Ka.out hb23)
              clear Ka
              have Ka := Z
              clear Z
              have Z := Lib.hid (StAt.below Kb.out hb23)
              clear Kb
              have Kb := Z
              clear Z
              have BB24 := Lib.hid (bThen BB20.out hb23)
              clear hb23
              have Blb := Nb
              clear Nb
              go_wp2_with fail
              refine (HAL.out _).mono ?_
              rintro e w25 ⟨rfl, hb26⟩
              have Z := Lib.hid (heap_below Bls.out hb26)
              clear Bls
              have Bls := Z
              clear Z
              have Z := Lib.hid (heap_below Bla.out hb26)
              clear Bla
              have Bla := Z
              clear Z
              have Z := Lib.hid (heap_below Blb.out hb26)
              clear Blb
              have Blb := Z
              clear Z
              have Z := Lib.hid (StAt.below Kp.out hb26)
              clear Kp
              have Kp := Z
              clear Z
              have Z := Lib.hid (OkRow.below Ku.out hb26)
              clear Ku
              have Ku := Z
              clear Z
              have Z := Lib.hid (StAt.below Ka.out hb26)
              clear Ka
              have Ka := Z
              clear Z
              have Z := Lib.hid (StAt.below Kb.out hb26)
              clear Kb
              have Kb := Z
              clear Z
              have BB27 := Lib.hid (bThen BB24.out hb26)
              clear hb26
              have za := blk_lt Bla.out
              have xa0 := cellsAt Bla.out 0
              have xa1 := cellsAt Bla.out 1
              have xa2 := cellsAt Bla.out 2
              have fa := frozAt Bla.out
              simp at xa0 xa1 xa2
              have zs := blk_lt Bls.out
              have xs0 := cellsAt Bls.out 0
              have xs1 := cellsAt Bls.out 1
              have xs2 := cellsAt Bls.out 2
              have fs := frozAt Bls.out
              simp at xs0 xs1 xs2
              go_wp2_with fail
              refine (likeC_same s.c _ _ _ Ka.out.rows.1.1 Kp.out.rows.1.1 Kp.out.rows.1.2.2).mono ?_
              rintro e w28 ⟨rfl, hb29⟩
              clear za fa xa0 xa1 xa2 zs fs xs0 xs1 xs2
              have Z := Lib.hid (heap_below Bls.out hb29)
              clear Bls
              have Bls := Z
              clear Z
              have Z := Lib.hid (heap_below Bla.out hb29)
              clear Bla
              have Bla := Z
              clear Z
              have Z := Lib.hid (heap_below Blb.out hb29)
              clear Blb
              have Blb := Z
              clear Z
              have Z := Lib.hid (StAt.below Kp.out hb29)
              clear Kp
              have Kp := Z
              clear Z
              have Z := Lib.hid (OkRow.below Ku.out hb29)
              clear Ku
              have Ku := Z
              clear Z
              have Z := Lib.hid (StAt.below Ka.out hb29)
              clear Ka
              have Ka := Z
              clear Z
              have Z := Lib.hid (StAt.below Kb.out hb29)
              clear Kb
              have Kb := Z
              clear Z
              have BB30 := Lib.hid (bThen BB27.out hb29)
              clear hb29
              have zb := blk_lt Blb.out
              have xb0 := cellsAt Blb.out 0
              have xb1 := cellsAt Blb.out 1
              have xb2 := cellsAt Blb.out 2
              have fb := frozAt Blb.out
              simp at xb0 xb1 xb2
              have zs := blk_lt Bls.out
              have xs0 := cellsAt Bls.out 0
              have xs1 := cellsAt Bls.out 1
              have xs2 := cellsAt Bls.out 2
              have fs := frozAt Bls.out
              simp at xs0 xs1 xs2
              have Kp2 := Lib.hid (by have h := Kp.out; rw [HSS.out] at h; exact h : StAt w28 (.agg #[.slice A m c, .slice A' 0 c', .bool false]) ⟨s.c, [], false⟩)
              go_wp2_with fail
              refine (like_same ⟨s.c, [], false⟩ _ _ _ Kb.out Kp2.out).mono ?_
              rintro e wz ⟨rfl, hbz⟩
              clear zb fb xb0 xb1 xb2 zs fs xs0 xs1 xs2
              go_wp2_with fail
              go_ret
              exact ⟨rfl, bThen BB30.out hbz⟩
            · have HA := Lib.hid (fun W v u h1 h2 => ans_of (HBA.out W v u h1 h2) hb)
              unfold AnsTo at HA
              simp only at HA
              clear hb HBA
              have HCL := Lib.hid (right_iff.1 hrc).len
              have HRS := Lib.hid (right_iff.1 HRR.out).rise
              have HSL := Lib.hid (right_iff.1 HRR.out).len
              go_wp2_with fail
              refine (HA.out _ _ _ Kp.out Ku.out).mono ?_
              rintro e w11 ⟨A1a, n1a, c1a, A2a, n2a, c2a, rfl, hka, hb12⟩
              clear zs fs xs0 xs1 xs2
              have Z := Lib.hid (heap_below Bls.out hb12)
              clear Bls
              have Bls := Z
              clear Z
              have Z := Lib.hid (StAt.below Kp.out hb12)
              clear Kp
              have Kp := Z
              clear Z
              have Z := Lib.hid (OkRow.below Ku.out hb12)
              clear Ku
              have Ku := Z
              clear Z
              have BB13 := Lib.hid (bThen BB10.out hb12)
              clear hb12
              have Ka := Lib.hid hka
              clear hka
              obtain rfl : n2a = 0 := Ka.out.lens.2
              go_upto_region 4 with fail
              obtain ⟨W14, hW15⟩ : ∃ X, X = (w11).alloc (.cells #[.slice A1a n1a c1a, .slice A2a 0 c2a, .bool false] 24) := ⟨_, rfl⟩
              rw [← hW15]
              have hb16 : Below w11.heap.size w11 W14 := by rw [hW15]; exact bel_alloc (Below.refl _ _) _
              have Na := Lib.hid (show W14.heap[w11.heap.size]? = some (.cells #[.slice A1a n1a c1a, .slice A2a 0 c2a, .bool false] 24 (0, 0)) by rw [hW15]; exact heap_at (w11) _ (w11.heap.size) (by simp))
              clear hW15
              have Z := Lib.hid (heap_below Bls.out hb16)
              clear Bls
              have Bls := Z
              clear Z
              have Z := Lib.hid (StAt.below Kp.out hb16)
              clear Kp
              have Kp := Z
              clear Z
              have Z := Lib.hid (OkRow.below Ku.out hb16)
              clear Ku
              have Ku := Z
              clear Z
              have Z := Lib.hid (StAt.below Ka.out hb16)
              clear Ka
              have Ka := Z
              clear Z
              have BB17 := Lib.hid (bThen BB13.out hb16)
              clear hb16
              have Bla := Na
              clear Na
              go_upto_region 6 with fail
              have CC := Lib.hid (fun (w' : World) (hb : Below W14.heap.size W14 w') => rcount_any s.c l _ _ w' (Kp.out.below hb).rows.1.1 (Ku.out.below hb).1 (by have := HSL.out; omega) (by rw [Hn.out]; omega) HRS.out)
              have CL := Lib.hid (fun (w' : World) (hb : Below W14.heap.size W14 w') (u : Value) (h : Row Cl.cs 2 w' u (countL s.c l)) => likeC_same (countL s.c l) _ u w' (Ka.out.below hb).rows.1.1 h (by have := HCL.out; omega))
              have hS : Below W14.heap.size W14 W14 ∧ W14.cell? ⟨w.heap.size, 0, none⟩ = some (.slice A m c) ∧ W14.cell? ⟨w.heap.size, 1, none⟩ = some (.slice A' 0 c') ∧ W14.cell? ⟨w.heap.size, 2, none⟩ = some (.bool false) ∧ W14.cell? ⟨w11.heap.size, 0, none⟩ = some (.slice A1a n1a c1a) ∧ W14.cell? ⟨w11.heap.size, 1, none⟩ = some (.slice A2a 0 c2a) ∧ W14.cell? ⟨w11.heap.size, 2, none⟩ = some (.bool false) := ⟨Below.refl _ _, cellsAt Bls.out 0, cellsAt Bls.out 1, cellsAt Bls.out 2, cellsAt Bla.out 0, cellsAt Bla.out 1, cellsAt Bla.out 2⟩
              have Gs := blk_lt Bls.out
              have Ga := blk_lt Bla.out
              go_region_held3 (fun w' => Below W14.heap.size W14 w' ∧ w'.cell? ⟨w.heap.size, 0, none⟩ = some (.slice A m c) ∧ w'.cell? ⟨w.heap.size, 1, none⟩ = some (.slice A' 0 c') ∧ w'.cell? ⟨w.heap.size, 2, none⟩ = some (.bool false) ∧ w'.cell? ⟨w11.heap.size, 0, none⟩ = some (.slice A1a n1a c1a) ∧ w'.cell? ⟨w11.heap.size, 1, none⟩ = some (.slice A2a 0 c2a) ∧ w'.cell? ⟨w11.heap.size, 2, none⟩ = some (.bool false)) (first | assumption | exact keepWD (by assumption) | exact keepW (by assumption) (by assumption) (by assumption) (by assumption)) (first | (go_at_call 12; with_reducible refine (alive_any _).mono ?_; rintro e w3 ⟨rfl, hb3⟩) | (go_at_call 25; refine (CC.out _ (And.left (by assumption))).mono ?_; rintro e w5 ⟨v5, rfl, hr5, hb3⟩) | (go_at_call 16; refine (CL.out _ (And.left (by assumption)) _ (by first | exact hr5 | exact hr5.drew)).mono ?_; rintro e w6 ⟨rfl, hb3⟩))
              all_goals
                go_wp2_with fail
                go_ret
                exact ⟨rfl, bThen BB17.out (by first | assumption | exact And.left (by assumption))⟩
            · have HA := Lib.hid (fun W v u h1 h2 => ans_of (HBA.out W v u h1 h2) hb)
              unfold AnsTo at HA
              rw [show zS.d = false from rfl] at HA
              clear hb HBA
              go_wp2_with fail
              refine (HA.out _ _ _ Kp.out Ku.out).mono ?_
              rintro e w11 ⟨A1a, n1a, c1a, A2a, n2a, c2a, rfl, hka, hb12⟩
              clear zs fs xs0 xs1 xs2
              have Z := Lib.hid (heap_below Bls.out hb12)
              clear Bls
              have Bls := Z
              clear Z
              have Z := Lib.hid (StAt.below Kp.out hb12)
              clear Kp
              have Kp := Z
              clear Z
              have Z := Lib.hid (OkRow.below Ku.out hb12)
              clear Ku
              have Ku := Z
              clear Z
              have BB13 := Lib.hid (bThen BB10.out hb12)
              clear hb12
              have Ka := Lib.hid hka
              clear hka
              obtain rfl : n1a = 0 := Ka.out.lens.1
              go_upto_region 4 with fail
              obtain ⟨W14, hW15⟩ : ∃ X, X = (w11).alloc (.cells #[.slice A1a 0 c1a, .slice A2a n2a c2a, .bool false] 24) := ⟨_, rfl⟩
              rw [← hW15]
              have hb16 : Below w11.heap.size w11 W14 := by rw [hW15]; exact bel_alloc (Below.refl _ _) _
              have Na := Lib.hid (show W14.heap[w11.heap.size]? = some (.cells #[.slice A1a 0 c1a, .slice A2a n2a c2a, .bool false] 24 (0, 0)) by rw [hW15]; exact heap_at (w11) _ (w11.heap.size) (by simp))
              clear hW15
              have Z := Lib.hid (heap_below Bls.out hb16)
              clear Bls
              have Bls := Z
              clear Z
              have Z := Lib.hid (StAt.below Kp.out hb16)
              clear Kp
              have Kp := Z
              clear Z
              have Z := Lib.hid (OkRow.below Ku.out hb16)
              clear Ku
              have Ku := Z
              clear Z
              have Z := Lib.hid (StAt.below Ka.out hb16)
              clear Ka
              have Ka := Z
              clear Z
              have BB17 := Lib.hid (bThen BB13.out hb16)
              clear hb16
              have Bla := Na
              clear Na
              go_wp2_with fail
              refine (HAL.out _).mono ?_
              rintro e w18 ⟨rfl, hb19⟩
              have Z := Lib.hid (heap_below Bls.out hb19)
              clear Bls
              have Bls := Z
              clear Z
              have Z := Lib.hid (heap_below Bla.out hb19)
              clear Bla
              have Bla := Z
              clear Z
              have Z := Lib.hid (StAt.below Kp.out hb19)
              clear Kp
              have Kp := Z
              clear Z
              have Z := Lib.hid (OkRow.below Ku.out hb19)
              clear Ku
              have Ku := Z
              clear Z
              have Z := Lib.hid (StAt.below Ka.out hb19)
              clear Ka
              have Ka := Z
              clear Z
              have BB20 := Lib.hid (bThen BB17.out hb19)
              clear hb19
              have za := blk_lt Bla.out
              have xa0 := cellsAt Bla.out 0
              have xa1 := cellsAt Bla.out 1
              have xa2 := cellsAt Bla.out 2
              have fa := frozAt Bla.out
              simp at xa0 xa1 xa2
              go_wp2_with fail
              go_ret
              exact ⟨rfl, BB20.out⟩
            · have HA := Lib.hid (fun W v u h1 h2 => ans_of (HBA.out W v u h1 h2) hb)
              unfold AnsTo at HA
              rw [show zS.d = false from rfl] at HA
              clear hb HBA
              go_wp2_with fail
              refine (HA.out _ _ _ Kp.out Ku.out).mono ?_
              rintro e w11 ⟨A1a, n1a, c1a, A2a, n2a, c2a, rfl, hka, hb12⟩
              clear zs fs xs0 xs1 xs2
              have Z := Lib.hid (heap_below Bls.out hb12)
              clear Bls
              have Bls := Z
              clear Z
              have Z := Lib.hid (StAt.below Kp.out hb12)
              clear Kp
              have Kp := Z
              clear Z
              have Z := Lib.hid (OkRow.below Ku.out hb12)
              clear Ku
              have Ku := Z
              clear Z
              have BB13 := Lib.hid (bThen BB10.out hb12)
              clear hb12
              have Ka := Lib.hid hka
              clear hka
              obtain rfl : n1a = 0 := Ka.out.lens.1
              go_upto_region 4 with fail
              obtain ⟨W14, hW15⟩ : ∃ X, X = (w11).alloc (.cells #[.slice A1a 0 c1a, .slice A2a n2a c2a, .bool false] 24) := ⟨_, rfl⟩
              rw [← hW15]
              have hb16 : Below w11.heap.size w11 W14 := by rw [hW15]; exact bel_alloc (Below.refl _ _) _
              have Na := Lib.hid (show W14.heap[w11.heap.size]? = some (.cells #[.slice A1a 0 c1a, .slice A2a n2a c2a, .bool false] 24 (0, 0)) by rw [hW15]; exact heap_at (w11) _ (w11.heap.size) (by simp))
              clear hW15
              have Z := Lib.hid (heap_below Bls.out hb16)
              clear Bls
              have Bls := Z
              clear Z
              have Z := Lib.hid (StAt.below Kp.out hb16)
              clear Kp
              have Kp := Z
              clear Z
              have Z := Lib.hid (OkRow.below Ku.out hb16)
              clear Ku
              have Ku := Z
              clear Z
              have Z := Lib.hid (StAt.below Ka.out hb16)
              clear Ka
              have Ka := Z
              clear Z
              have BB17 := Lib.hid (bThen BB13.out hb16)
              clear hb16
              have Bla := Na
              clear Na
              go_wp2_with fail
              refine (HAL.out _).mono ?_
              rintro e w18 ⟨rfl, hb19⟩
              have Z := Lib.hid (heap_below Bls.out hb19)
              clear Bls
              have Bls := Z
              clear Z
              have Z := Lib.hid (heap_below Bla.out hb19)
              clear Bla
              have Bla := Z
              clear Z
              have Z := Lib.hid (StAt.below Kp.out hb19)
              clear Kp
              have Kp := Z
              clear Z
              have Z := Lib.hid (OkRow.below Ku.out hb19)
              clear Ku
              have Ku := Z
              clear Z
              have Z := Lib.hid (StAt.below Ka.out hb19)
              clear Ka
              have Ka := Z
              clear Z
              have BB20 := Lib.hid (bThen BB17.out hb19)
              clear hb19
              have za := blk_lt Bla.out
              have xa0 := cellsAt Bla.out 0
              have xa1 := cellsAt Bla.out 1
              have xa2 := cellsAt Bla.out 2
              have fa := frozAt Bla.out
              simp at xa0 xa1 xa2
              go_wp2_with fail
              go_ret
              exact ⟨rfl, BB20.out⟩
end Go.Proofs.Ytlboehpgpbchhaa
