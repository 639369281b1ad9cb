/-
  WALKS of layer 17: the laws StoreBatches and StoreDoes.
-/
import Derived.Test.YtlboehpgpbchhaaStoreW14
set_option linter.unusedVariables false
set_option linter.unusedSimpArgs false
namespace Go.Proofs.Ytlboehpgpbchhaa
open Go.RowKit

theorem keepS {W w' w'' : World} {g0 g1 g2 g3 g4 : Nat} {a00 a01 a02 a10 a11 a12 a20 a21 a22 a30 a31 a32 a40 a41 a42 : Value} (hg0 : g0 < W.heap.size) (hg1 : g1 < W.heap.size) (hg2 : g2 < W.heap.size) (hg3 : g3 < W.heap.size) (hg4 : g4 < W.heap.size) (h : Below W.heap.size W w' ∧ w'.cell? ⟨g0, 0, none⟩ = some a00 ∧ w'.cell? ⟨g0, 1, none⟩ = some a01 ∧ w'.cell? ⟨g0, 2, none⟩ = some a02 ∧ w'.cell? ⟨g1, 0, none⟩ = some a10 ∧ w'.cell? ⟨g1, 1, none⟩ = some a11 ∧ w'.cell? ⟨g1, 2, none⟩ = some a12 ∧ w'.cell? ⟨g2, 0, none⟩ = some a20 ∧ w'.cell? ⟨g2, 1, none⟩ = some a21 ∧ w'.cell? ⟨g2, 2, none⟩ = some a22 ∧ w'.cell? ⟨g3, 0, none⟩ = some a30 ∧ w'.cell? ⟨g3, 1, none⟩ = some a31 ∧ w'.cell? ⟨g3, 2, none⟩ = some a32 ∧ w'.cell? ⟨g4, 0, none⟩ = some a40 ∧ w'.cell? ⟨g4, 1, none⟩ = some a41 ∧ w'.cell? ⟨g4, 2, none⟩ = some a42) (hb : Below w'.heap.size w' w'') : Below W.heap.size W w'' ∧ w''.cell? ⟨g0, 0, none⟩ = some a00 ∧ w''.cell? ⟨g0, 1, none⟩ = some a01 ∧ w''.cell? ⟨g0, 2, none⟩ = some a02 ∧ w''.cell? ⟨g1, 0, none⟩ = some a10 ∧ w''.cell? ⟨g1, 1, none⟩ = some a11 ∧ w''.cell? ⟨g1, 2, none⟩ = some a12 ∧ w''.cell? ⟨g2, 0, none⟩ = some a20 ∧ w''.cell? ⟨g2, 1, none⟩ = some a21 ∧ w''.cell? ⟨g2, 2, none⟩ = some a22 ∧ w''.cell? ⟨g3, 0, none⟩ = some a30 ∧ w''.cell? ⟨g3, 1, none⟩ = some a31 ∧ w''.cell? ⟨g3, 2, none⟩ = some a32 ∧ w''.cell? ⟨g4, 0, none⟩ = some a40 ∧ w''.cell? ⟨g4, 1, none⟩ = some a41 ∧ w''.cell? ⟨g4, 2, none⟩ = some a42 := by
  obtain ⟨b, c0, c1, c2, c3, c4, c5, c6, c7, c8, c9, c10, c11, c12, c13, c14⟩ := h
  have hs := b.size
  exact ⟨b.trans (hb.mono hs), (hb.cell (p := ⟨g0, 0, none⟩) (Nat.lt_of_lt_of_le hg0 hs)).trans c0, (hb.cell (p := ⟨g0, 1, none⟩) (Nat.lt_of_lt_of_le hg0 hs)).trans c1, (hb.cell (p := ⟨g0, 2, none⟩) (Nat.lt_of_lt_of_le hg0 hs)).trans c2, (hb.cell (p := ⟨g1, 0, none⟩) (Nat.lt_of_lt_of_le hg1 hs)).trans c3, (hb.cell (p := ⟨g1, 1, none⟩) (Nat.lt_of_lt_of_le hg1 hs)).trans c4, (hb.cell (p := ⟨g1, 2, none⟩) (Nat.lt_of_lt_of_le hg1 hs)).trans c5, (hb.cell (p := ⟨g2, 0, none⟩) (Nat.lt_of_lt_of_le hg2 hs)).trans c6, (hb.cell (p := ⟨g2, 1, none⟩) (Nat.lt_of_lt_of_le hg2 hs)).trans c7, (hb.cell (p := ⟨g2, 2, none⟩) (Nat.lt_of_lt_of_le hg2 hs)).trans c8, (hb.cell (p := ⟨g3, 0, none⟩) (Nat.lt_of_lt_of_le hg3 hs)).trans c9, (hb.cell (p := ⟨g3, 1, none⟩) (Nat.lt_of_lt_of_le hg3 hs)).trans c10, (hb.cell (p := ⟨g3, 2, none⟩) (Nat.lt_of_lt_of_le hg3 hs)).trans c11, (hb.cell (p := ⟨g4, 0, none⟩) (Nat.lt_of_lt_of_le hg4 hs)).trans c12, (hb.cell (p := ⟨g4, 1, none⟩) (Nat.lt_of_lt_of_le hg4 hs)).trans c13, (hb.cell (p := ⟨g4, 2, none⟩) (Nat.lt_of_lt_of_le hg4 hs)).trans c14⟩
theorem keepSD {W w' : World} {g0 g1 g2 g3 g4 : Nat} {a00 a01 a02 a10 a11 a12 a20 a21 a22 a30 a31 a32 a40 a41 a42 : Value} (h : Below W.heap.size W w' ∧ w'.cell? ⟨g0, 0, none⟩ = some a00 ∧ w'.cell? ⟨g0, 1, none⟩ = some a01 ∧ w'.cell? ⟨g0, 2, none⟩ = some a02 ∧ w'.cell? ⟨g1, 0, none⟩ = some a10 ∧ w'.cell? ⟨g1, 1, none⟩ = some a11 ∧ w'.cell? ⟨g1, 2, none⟩ = some a12 ∧ w'.cell? ⟨g2, 0, none⟩ = some a20 ∧ w'.cell? ⟨g2, 1, none⟩ = some a21 ∧ w'.cell? ⟨g2, 2, none⟩ = some a22 ∧ w'.cell? ⟨g3, 0, none⟩ = some a30 ∧ w'.cell? ⟨g3, 1, none⟩ = some a31 ∧ w'.cell? ⟨g3, 2, none⟩ = some a32 ∧ w'.cell? ⟨g4, 0, none⟩ = some a40 ∧ w'.cell? ⟨g4, 1, none⟩ = some a41 ∧ w'.cell? ⟨g4, 2, none⟩ = some a42) : Below W.heap.size W w'.drew ∧ w'.drew.cell? ⟨g0, 0, none⟩ = some a00 ∧ w'.drew.cell? ⟨g0, 1, none⟩ = some a01 ∧ w'.drew.cell? ⟨g0, 2, none⟩ = some a02 ∧ w'.drew.cell? ⟨g1, 0, none⟩ = some a10 ∧ w'.drew.cell? ⟨g1, 1, none⟩ = some a11 ∧ w'.drew.cell? ⟨g1, 2, none⟩ = some a12 ∧ w'.drew.cell? ⟨g2, 0, none⟩ = some a20 ∧ w'.drew.cell? ⟨g2, 1, none⟩ = some a21 ∧ w'.drew.cell? ⟨g2, 2, none⟩ = some a22 ∧ w'.drew.cell? ⟨g3, 0, none⟩ = some a30 ∧ w'.drew.cell? ⟨g3, 1, none⟩ = some a31 ∧ w'.drew.cell? ⟨g3, 2, none⟩ = some a32 ∧ w'.drew.cell? ⟨g4, 0, none⟩ = some a40 ∧ w'.drew.cell? ⟨g4, 1, none⟩ = some a41 ∧ w'.drew.cell? ⟨g4, 2, none⟩ = some a42 := ⟨h.1.drew, h.2⟩
theorem start_no {s : St} (h : rightB s.c s.f = false) : startS s = (zS, 1) := by
  unfold startS
  rw [if_neg (by rw [h]; simp)]
theorem start_yes {s : St} (h : rightB s.c s.f = true) : startS s = (⟨s.c, [], false⟩, 0) := by
  unfold startS
  rw [if_pos h]
/-- A contract over worlds, the answer told with its parts. -/
def AnsTo (s : St) (er : Int) (w : World) (e : Ending) (w' : World) : Prop := ∃ A1 n1 c1 A2 n2 c2, e = .returned (.tuple #[.agg #[.slice A1 n1 c1, .slice A2 n2 c2, .bool s.d], .int .i64 er]) ∧ StAt w' (.agg #[.slice A1 n1 c1, .slice A2 n2 c2, .bool s.d]) s ∧ Below w.heap.size w w'
theorem ans_of {f : Nat} {args : Array Value} {w : World} {r : St × Int} {s : St} {er : Int} (h : Calls Try.prog f args w (StTo r w)) (hr : r = (s, er)) : Calls Try.prog f args w (AnsTo s er w) := by
  subst hr
  refine h.mono ?_
  rintro e w' ⟨v, rfl, hs, hb⟩
  obtain ⟨A1, n1, c1, A2, n2, c2, rfl, -, -⟩ := hs.form3
  exact ⟨A1, n1, c1, A2, n2, c2, rfl, hs, hb⟩
set_option maxRecDepth 100000 in
set_option maxHeartbeats 4000000 in
theorem batches_walk (s : St) (l : List Cl) (left : Int) (v u : Value) (w : World) (hs : StIn w v s) (hl : ClIn w u l) :
    Calls Try.prog 4 #[v, u, .int .i64 left] w fun e w' => e = .returned (.bool true) ∧ Below w.heap.size w w' := by
  have HS := Lib.hid hs
  obtain ⟨A, c, A', c', rfl⟩ := hs.form
  have HSM := Lib.hid (fun W h q hq => small_any s (.agg #[.slice A s.c.length c, .slice A' s.f.length c', .bool s.d]) W h q hq)
  have HAL := Lib.hid alive_any
  obtain ⟨q, hq⟩ : ∃ q, smallS s = q := ⟨_, rfl⟩
  have HQ := Lib.hid hq
  obtain ⟨m, hm⟩ : ∃ m, s.c.length = m := ⟨_, rfl⟩
  obtain ⟨m2, hm2⟩ : ∃ m, s.f.length = m := ⟨_, rfl⟩
  obtain ⟨d, hd⟩ : ∃ d, s.d = d := ⟨_, rfl⟩
  rw [hm, hm2, hd] at HS HSM ⊢
  clear hs hq hm hm2 hd
  have HL := Lib.hid hl
  obtain ⟨⟨A3, c3, rfl, -⟩, -, hln⟩ := hl
  obtain ⟨n, hn⟩ : ∃ n, l.length = n := ⟨_, rfl⟩
  have Hn := Lib.hid hn
  rw [hn] at HL hln ⊢
  unfold maxLen at hln
  obtain ⟨R, hR⟩ : ∃ R, batchS s l left = R := ⟨_, rfl⟩
  obtain ⟨rs, re⟩ := R
  have HA := Lib.hid (fun W v u h1 h2 => ans_of (batch_any s l left v u W h1 h2) hR)
  have HB := Lib.hid (fun W v u h1 h2 => ans_of (rbatch_any s l left v u W h1 h2) hR)
  obtain ⟨rd, hrd⟩ : ∃ d, rs.d = d := ⟨_, rfl⟩
  unfold AnsTo at HA HB
  rw [hrd] at HA HB
  clear hn hR hrd
  go_enter Try.func4, Try.ntmps4
  go_wp2_with fail
  have KI := HS
  have R3 := HL
  obtain ⟨W1, hW2⟩ : ∃ X, X = (w).alloc (.cells #[.slice A m c, .slice A' m2 c', .bool d] 24) := ⟨_, rfl⟩
  rw [← hW2]
  have hb3 : Below w.heap.size w W1 := by rw [hW2]; exact bel_alloc (Below.refl _ _) _
  have Ns := Lib.hid (show W1.heap[w.heap.size]? = some (.cells #[.slice A m c, .slice A' m2 c', .bool d] 24 (0, 0)) by rw [hW2]; exact heap_at (w) _ (w.heap.size) (by simp))
  clear hW2
  have BB4 := Lib.hid hb3
  clear hb3
  have Bls := Ns
  clear Ns
  have Z := Lib.hid (StIn.below KI.out BB4.out)
  clear KI
  have KI := Z
  clear Z
  have Z := Lib.hid (ClIn.below R3.out BB4.out)
  clear R3
  have R3 := Z
  clear Z
  refine (HSM.out _ KI.out q HQ.out).mono ?_
  rintro e w5 ⟨rfl, hb6⟩
  have Z := Lib.hid (heap_below Bls.out hb6)
  clear Bls
  have Bls := Z
  clear Z
  have Z := Lib.hid (StIn.below KI.out hb6)
  clear KI
  have KI := Z
  clear Z
  have Z := Lib.hid (ClIn.below R3.out hb6)
  clear R3
  have R3 := Z
  clear Z
  have BB7 := Lib.hid (bThen BB4.out hb6)
  clear hb6
  have zs := blk_lt Bls.out
  have xs0 := cellsAt Bls.out 0
  have xs1 := cellsAt Bls.out 1
  have xs2 := cellsAt Bls.out 2
  have fs := frozAt Bls.out
  simp at xs0 xs1 xs2
  cases q with
  | false =>
    go_wp2_with fail
    go_ret
    exact ⟨rfl, BB7.out⟩
  | true =>
    by_cases h100 : 100 < n
    · have t1 : decide (100 < (n : Int)) = true := by simp; omega
      have t1n : decide (100 < n) = true := by simp; omega
      go_wp2_with fail
      go_ret
      exact ⟨rfl, BB7.out⟩
    · have t1 : decide (100 < (n : Int)) = false := by simp; omega
      have t1n : decide (100 < n) = false := by simp; omega
      have Kp := Lib.hid (KI.out.small HQ.out)
      have Ku := Lib.hid (R3.out.ok (by rw [Hn.out]; omega))
      clear KI R3
      go_wp2_with fail
      refine (HA.out _ _ _ Kp.out Ku.out).mono ?_
      rintro e w8 ⟨A1a, n1a, c1a, A2a, n2a, c2a, rfl, hka, hb9⟩
      clear zs fs xs0 xs1 xs2
      have Z := Lib.hid (heap_below Bls.out hb9)
      clear Bls
      have Bls := Z
      clear Z
      have Z := Lib.hid (StAt.below Kp.out hb9)
      clear Kp
      have Kp := Z
      clear Z
      have Z := Lib.hid (OkRow.below Ku.out hb9)
      clear Ku
      have Ku := Z
      clear Z
      have BB10 := Lib.hid (bThen BB7.out hb9)
      clear hb9
      have Ka := Lib.hid hka
      clear hka
      go_upto_region 4 with fail
      obtain ⟨W11, hW12⟩ : ∃ X, X = (w8).alloc (.cells #[.slice A1a n1a c1a, .slice A2a n2a c2a, .bool rd] 24) := ⟨_, rfl⟩
      rw [← hW12]
      have hb13 : Below w8.heap.size w8 W11 := by rw [hW12]; exact bel_alloc (Below.refl _ _) _
      have Na := Lib.hid (show W11.heap[w8.heap.size]? = some (.cells #[.slice A1a n1a c1a, .slice A2a n2a c2a, .bool rd] 24 (0, 0)) by rw [hW12]; exact heap_at (w8) _ (w8.heap.size) (by simp))
      clear hW12
      have Z := Lib.hid (heap_below Bls.out hb13)
      clear Bls
      have Bls := Z
      clear Z
      have Z := Lib.hid (StAt.below Kp.out hb13)
      clear Kp
      have Kp := Z
      clear Z
      have Z := Lib.hid (OkRow.below Ku.out hb13)
      clear Ku
      have Ku := Z
      clear Z
      have Z := Lib.hid (StAt.below Ka.out hb13)
      clear Ka
      have Ka := Z
      clear Z
      have BB14 := Lib.hid (bThen BB10.out hb13)
      clear hb13
      have Bla := Na
      clear Na
      have zs := blk_lt Bls.out
      have xs0 := cellsAt Bls.out 0
      have xs1 := cellsAt Bls.out 1
      have xs2 := cellsAt Bls.out 2
      have fs := frozAt Bls.out
      simp at xs0 xs1 xs2
      go_wp2_with fail
      refine (HB.out _ _ _ Kp.out Ku.out).mono ?_
      rintro e w15 ⟨A1b, n1b, c1b, A2b, n2b, c2b, rfl, hkb, hb16⟩
      clear zs fs xs0 xs1 xs2
      have Z := Lib.hid (heap_below Bls.out hb16)
      clear Bls
      have Bls := Z
      clear Z
      have Z := Lib.hid (heap_below Bla.out hb16)
      clear Bla
      have Bla := Z
      clear Z
      have Z := Lib.hid (StAt.below Kp.out hb16)
      clear Kp
      have Kp := Z
      clear Z
      have Z := Lib.hid (OkRow.below Ku.out hb16)
      clear Ku
      have Ku := Z
      clear Z
      have Z := Lib.hid (StAt.below Ka.out hb16)
      clear Ka
      have Ka := Z
      clear Z
      have BB17 := Lib.hid (bThen BB14.out hb16)
      clear hb16
      have Kb := Lib.hid hkb
      clear hkb
      go_upto_region 5 with fail
      obtain ⟨W18, hW19⟩ : ∃ X, X = (w15).alloc (.cells #[.slice A1b n1b c1b, .slice A2b n2b c2b, .bool rd] 24) := ⟨_, rfl⟩
      rw [← hW19]
      have hb20 : Below w15.heap.size w15 W18 := by rw [hW19]; exact bel_alloc (Below.refl _ _) _
      have Nb := Lib.hid (show W18.heap[w15.heap.size]? = some (.cells #[.slice A1b n1b c1b, .slice A2b n2b c2b, .bool rd] 24 (0, 0)) by rw [hW19]; exact heap_at (w15) _ (w15.heap.size) (by simp))
      clear hW19
      have Z := Lib.hid (heap_below Bls.out hb20)
      clear Bls
      have Bls := Z
      clear Z
      have Z := Lib.hid (heap_below Bla.out hb20)
      clear Bla
      have Bla := Z
      clear Z
      have Z := Lib.hid (StAt.below Kp.out hb20)
      clear Kp
      have Kp := Z
      clear Z
      have Z := Lib.hid (OkRow.below Ku.out hb20)
      clear Ku
      have Ku := Z
      clear Z
      have Z := Lib.hid (StAt.below Ka.out hb20)
      clear Ka
      have Ka := Z
      clear Z
      have Z := Lib.hid (StAt.below Kb.out hb20)
      clear Kb
      have Kb := Z
      clear Z
      have BB21 := Lib.hid (bThen BB17.out hb20)
      clear hb20
      have Blb := Nb
      clear Nb
      go_wp2_with fail
      refine (HAL.out _).mono ?_
      rintro e w22 ⟨rfl, hb23⟩
      have Z := Lib.hid (heap_below Bls.out hb23)
      clear Bls
      have Bls := Z
      clear Z
      have Z := Lib.hid (heap_below Bla.out hb23)
      clear Bla
      have Bla := Z
      clear Z
      have Z := Lib.hid (heap_below Blb.out hb23)
      clear Blb
      have Blb := Z
      clear Z
      have Z := Lib.hid (StAt.below Kp.out hb23)
      clear Kp
      have Kp := Z
      clear Z
      have Z := Lib.hid (OkRow.below Ku.out hb23)
      clear Ku
      have Ku := Z
      clear Z
      have Z := Lib.hid (StAt.below Ka.out hb23)
      clear Ka
      have Ka := Z
      clear Z
      have Z := Lib.hid (StAt.below Kb.out hb23)
      clear Kb
      have Kb := Z
      clear Z
      have BB24 := Lib.hid (bThen BB21.out hb23)
      clear hb23
      have za := blk_lt Bla.out
      have xa0 := cellsAt Bla.out 0
      have xa1 := cellsAt Bla.out 1
      have xa2 := cellsAt Bla.out 2
      have fa := frozAt Bla.out
      simp at xa0 xa1 xa2
      have zb := blk_lt Blb.out
      have xb0 := cellsAt Blb.out 0
      have xb1 := cellsAt Blb.out 1
      have xb2 := cellsAt Blb.out 2
      have fb := frozAt Blb.out
      simp at xb0 xb1 xb2
      go_wp2_with fail
      refine (like_same rs _ _ _ Ka.out Kb.out).mono ?_
      rintro e w25 ⟨rfl, hb26⟩
      clear za fa xa0 xa1 xa2 zb fb xb0 xb1 xb2
      have Z := Lib.hid (heap_below Bls.out hb26)
      clear Bls
      have Bls := Z
      clear Z
      have Z := Lib.hid (heap_below Bla.out hb26)
      clear Bla
      have Bla := Z
      clear Z
      have Z := Lib.hid (heap_below Blb.out hb26)
      clear Blb
      have Blb := Z
      clear Z
      have Z := Lib.hid (StAt.below Kp.out hb26)
      clear Kp
      have Kp := Z
      clear Z
      have Z := Lib.hid (OkRow.below Ku.out hb26)
      clear Ku
      have Ku := Z
      clear Z
      have Z := Lib.hid (StAt.below Ka.out hb26)
      clear Ka
      have Ka := Z
      clear Z
      have Z := Lib.hid (StAt.below Kb.out hb26)
      clear Kb
      have Kb := Z
      clear Z
      have BB27 := Lib.hid (bThen BB24.out hb26)
      clear hb26
      go_wp2_with fail
      go_ret
      exact ⟨rfl, BB27.out⟩
set_option maxRecDepth 100000 in
set_option maxHeartbeats 8000000 in
theorem does_walk (s : St) (x : Cl) (hx : x.Ok) (v : Value) (w : World) (hs : StIn w v s) :
    Calls Try.prog 5 #[v, .string x.n, .string x.b] w fun e w' => e = .returned (.bool true) ∧ Below w.heap.size w w' := by
  have HS := Lib.hid hs
  obtain ⟨A, c, A', c', rfl⟩ := hs.form
  have HSM := Lib.hid (fun W h q hq => small_any s (.agg #[.slice A s.c.length c, .slice A' s.f.length c', .bool s.d]) W h q hq)
  have HAL := Lib.hid alive_any
  obtain ⟨q, hq⟩ : ∃ q, smallS s = q := ⟨_, rfl⟩
  have HQ := Lib.hid hq
  obtain ⟨m, hm⟩ : ∃ m, s.c.length = m := ⟨_, rfl⟩
  obtain ⟨m2, hm2⟩ : ∃ m, s.f.length = m := ⟨_, rfl⟩
  obtain ⟨d, hd⟩ : ∃ d, s.d = d := ⟨_, rfl⟩
  rw [hm, hm2, hd] at HS HSM ⊢
  have Hd := Lib.hid hd
  clear hs hq hm hm2 hd
  obtain ⟨rq, hrq⟩ : ∃ q, rightB s.c s.f = q := ⟨_, rfl⟩
  have HRQ := Lib.hid hrq
  have HR := Lib.hid (fun W (h : StAt W (.agg #[.slice A m c, .slice A' m2 c', .bool d]) s) => sright_any s.c s.f d _ _ W h.rows.1 h.rows.2 rq hrq)
  have HR2 := Lib.hid (fun W (h : StAt W (.agg #[.slice A m c, .slice A' m2 c', .bool d]) s) => rright_any s.c s.f d _ _ W h.rows.1 h.rows.2 rq hrq)
  obtain ⟨R1, hR1⟩ : ∃ R, writeS s x = R := ⟨_, rfl⟩
  obtain ⟨R2, hR2⟩ : ∃ R, commitS s = R := ⟨_, rfl⟩
  obtain ⟨R3, hR3⟩ : ∃ R, readS s x.n = R := ⟨_, rfl⟩
  obtain ⟨ws, we⟩ := R1
  obtain ⟨cs, ce⟩ := R2
  obtain ⟨rb, re⟩ := R3
  have HW := Lib.hid (fun W v h => ans_of (write_any s x hx v W h) hR1)
  have HW2 := Lib.hid (fun W v h => ans_of (rwrite_any s x hx v W h) hR1)
  have HC := Lib.hid (fun W v h => ans_of (commit_any s v W h) hR2)
  have HC2 := Lib.hid (fun W v h => ans_of (rcommit_any s v W h) hR2)
  have HD := Lib.hid (fun W v h => read_any s x.n v W h)
  have HD2 := Lib.hid (fun W v h => rread_any s x.n v W h)
  unfold RdTo at HD HD2
  rw [hR3] at HD HD2
  obtain ⟨wd, hwd⟩ : ∃ d, ws.d = d := ⟨_, rfl⟩
  obtain ⟨cd, hcd⟩ : ∃ d, cs.d = d := ⟨_, rfl⟩
  unfold AnsTo at HW HW2 HC HC2
  rw [hwd] at HW HW2
  rw [hcd] at HC HC2
  simp only at HD HD2
  have HST := Lib.hid (fun W v h => start_any s v W h)
  clear hR1 hR2 hR3 hwd hcd hrq
  go_enter Try.func5, Try.ntmps5
  go_wp2_with fail
  have KI := HS
  obtain ⟨W1, hW2⟩ : ∃ X, X = (w).alloc (.cells #[.slice A m c, .slice A' m2 c', .bool d] 24) := ⟨_, rfl⟩
  rw [← hW2]
  have hb3 : Below w.heap.size w W1 := by rw [hW2]; exact bel_alloc (Below.refl _ _) _
  have Ns := Lib.hid (show W1.heap[w.heap.size]? = some (.cells #[.slice A m c, .slice A' m2 c', .bool d] 24 (0, 0)) by rw [hW2]; exact heap_at (w) _ (w.heap.size) (by simp))
  clear hW2
  have BB4 := Lib.hid hb3
  clear hb3
  have Bls := Ns
  clear Ns
  have Z := Lib.hid (StIn.below KI.out BB4.out)
  clear KI
  have KI := Z
  clear Z
  refine (HSM.out _ KI.out q HQ.out).mono ?_
  rintro e w5 ⟨rfl, hb6⟩
  have Z := Lib.hid (heap_below Bls.out hb6)
  clear Bls
  have Bls := Z
  clear Z
  have Z := Lib.hid (StIn.below KI.out hb6)
  clear KI
  have KI := Z
  clear Z
  have BB7 := Lib.hid (bThen BB4.out hb6)
  clear hb6
  have zs := blk_lt Bls.out
  have xs0 := cellsAt Bls.out 0
  have xs1 := cellsAt Bls.out 1
  have xs2 := cellsAt Bls.out 2
  have fs := frozAt Bls.out
  simp at xs0 xs1 xs2
  cases q with
  | false =>
    go_wp2_with fail
    go_ret
    exact ⟨rfl, BB7.out⟩
  | true =>
    have Kp := Lib.hid (KI.out.small HQ.out)
    clear KI
    go_wp2_with fail
    refine (HW.out _ _ Kp.out).mono ?_
    rintro e w8 ⟨A1a, n1a, c1a, A2a, n2a, c2a, rfl, hka, hb9⟩
    clear zs fs xs0 xs1 xs2
    have Z := Lib.hid (heap_below Bls.out hb9)
    clear Bls
    have Bls := Z
    clear Z
    have Z := Lib.hid (StAt.below Kp.out hb9)
    clear Kp
    have Kp := Z
    clear Z
    have BB10 := Lib.hid (bThen BB7.out hb9)
    clear hb9
    have Ka := Lib.hid hka
    clear hka
    go_upto_region 4 with fail
    obtain ⟨W11, hW12⟩ : ∃ X, X = (w8).alloc (.cells #[.slice A1a n1a c1a, .slice A2a n2a c2a, .bool wd] 24) := ⟨_, rfl⟩
    rw [← hW12]
    have hb13 : Below w8.heap.size w8 W11 := by rw [hW12]; exact bel_alloc (Below.refl _ _) _
    have Na := Lib.hid (show W11.heap[w8.heap.size]? = some (.cells #[.slice A1a n1a c1a, .slice A2a n2a c2a, .bool wd] 24 (0, 0)) by rw [hW12]; exact heap_at (w8) _ (w8.heap.size) (by simp))
    clear hW12
    have Z := Lib.hid (heap_below Bls.out hb13)
    clear Bls
    have Bls := Z
    clear Z
    have Z := Lib.hid (StAt.below Kp.out hb13)
    clear Kp
    have Kp := Z
    clear Z
    have Z := Lib.hid (StAt.below Ka.out hb13)
    clear Ka
    have Ka := Z
    clear Z
    have BB14 := Lib.hid (bThen BB10.out hb13)
    clear hb13
    have Bla := Na
    clear Na
    have zs := blk_lt Bls.out
    have xs0 := cellsAt Bls.out 0
    have xs1 := cellsAt Bls.out 1
    have xs2 := cellsAt Bls.out 2
    have fs := frozAt Bls.out
    simp at xs0 xs1 xs2
    go_wp2_with fail
    refine (HW2.out _ _ Kp.out).mono ?_
    rintro e w15 ⟨A1b, n1b, c1b, A2b, n2b, c2b, rfl, hkb, hb16⟩
    clear zs fs xs0 xs1 xs2
    have Z := Lib.hid (heap_below Bls.out hb16)
    clear Bls
    have Bls := Z
    clear Z
    have Z := Lib.hid (heap_below Bla.out hb16)
    clear Bla
    have Bla := Z
    clear Z
    have Z := Lib.hid (StAt.below Kp.out hb16)
    clear Kp
    have Kp := Z
    clear Z
    have Z := Lib.hid (StAt.below Ka.out hb16)
    clear Ka
    have Ka := Z
    clear Z
    have BB17 := Lib.hid (bThen BB14.out hb16)
    clear hb16
    have Kb := Lib.hid hkb
    clear hkb
    go_upto_region 5 with fail
    obtain ⟨W18, hW19⟩ : ∃ X, X = (w15).alloc (.cells #[.slice A1b n1b c1b, .slice A2b n2b c2b, .bool wd] 24) := ⟨_, rfl⟩
    rw [← hW19]
    have hb20 : Below w15.heap.size w15 W18 := by rw [hW19]; exact bel_alloc (Below.refl _ _) _
    have Nb := Lib.hid (show W18.heap[w15.heap.size]? = some (.cells #[.slice A1b n1b c1b, .slice A2b n2b c2b, .bool wd] 24 (0, 0)) by rw [hW19]; exact heap_at (w15) _ (w15.heap.size) (by simp))
    clear hW19
    have Z := Lib.hid (heap_below Bls.out hb20)
    clear Bls
    have Bls := Z
    clear Z
    have Z := Lib.hid (heap_below Bla.out hb20)
    clear Bla
    have Bla := Z
    clear Z
    have Z := Lib.hid (StAt.below Kp.out hb20)
    clear Kp
    have Kp := Z
    clear Z
    have Z := Lib.hid (StAt.below Ka.out hb20)
    clear Ka
    have Ka := Z
    clear Z
    have Z := Lib.hid (StAt.below Kb.out hb20)
    clear Kb
    have Kb := Z
    clear Z
    have BB21 := Lib.hid (bThen BB17.out hb20)
    clear hb20
    have Blb := Nb
    clear Nb
    have zs := blk_lt Bls.out
    have xs0 := cellsAt Bls.out 0
    have xs1 := cellsAt Bls.out 1
    have xs2 := cellsAt Bls.out 2
    have fs := frozAt Bls.out
    simp at xs0 xs1 xs2
    go_wp2_with fail
    refine (HC.out _ _ Kp.out).mono ?_
    rintro e w22 ⟨A1c, n1c, c1c, A2c, n2c, c2c, rfl, hkc, hb23⟩
    clear zs fs xs0 xs1 xs2
    have Z := Lib.hid (heap_below Bls.out hb23)
    clear Bls
    have Bls := Z
    clear Z
    have Z := Lib.hid (heap_below Bla.out hb23)
    clear Bla
    have Bla := Z
    clear Z
    have Z := Lib.hid (heap_below Blb.out hb23)
    clear Blb
    have Blb := Z
    clear Z
    have Z := Lib.hid (StAt.below Kp.out hb23)
    clear Kp
    have Kp := Z
    clear Z
    have Z := Lib.hid (StAt.below Ka.out hb23)
    clear Ka
    have Ka := Z
    clear Z
    have Z := Lib.hid (StAt.below Kb.out hb23)
    clear Kb
    have Kb := Z
    clear Z
    have BB24 := Lib.hid (bThen BB21.out hb23)
    clear hb23
    have Kc := Lib.hid hkc
    clear hkc
    go_upto_region 6 with fail
    obtain ⟨W25, hW26⟩ : ∃ X, X = (w22).alloc (.cells #[.slice A1c n1c c1c, .slice A2c n2c c2c, .bool cd] 24) := ⟨_, rfl⟩
    rw [← hW26]
    have hb27 : Below w22.heap.size w22 W25 := by rw [hW26]; exact bel_alloc (Below.refl _ _) _
    have Nc := Lib.hid (show W25.heap[w22.heap.size]? = some (.cells #[.slice A1c n1c c1c, .slice A2c n2c c2c, .bool cd] 24 (0, 0)) by rw [hW26]; exact heap_at (w22) _ (w22.heap.size) (by simp))
    clear hW26
    have Z := Lib.hid (heap_below Bls.out hb27)
    clear Bls
    have Bls := Z
    clear Z
    have Z := Lib.hid (heap_below Bla.out hb27)
    clear Bla
    have Bla := Z
    clear Z
    have Z := Lib.hid (heap_below Blb.out hb27)
    clear Blb
    have Blb := Z
    clear Z
    have Z := Lib.hid (StAt.below Kp.out hb27)
    clear Kp
    have Kp := Z
    clear Z
    have Z := Lib.hid (StAt.below Ka.out hb27)
    clear Ka
    have Ka := Z
    clear Z
    have Z := Lib.hid (StAt.below Kb.out hb27)
    clear Kb
    have Kb := Z
    clear Z
    have Z := Lib.hid (StAt.below Kc.out hb27)
    clear Kc
    have Kc := Z
    clear Z
    have BB28 := Lib.hid (bThen BB24.out hb27)
    clear hb27
    have Blc := Nc
    clear Nc
    have zs := blk_lt Bls.out
    have xs0 := cellsAt Bls.out 0
    have xs1 := cellsAt Bls.out 1
    have xs2 := cellsAt Bls.out 2
    have fs := frozAt Bls.out
    simp at xs0 xs1 xs2
    go_wp2_with fail
    refine (HC2.out _ _ Kp.out).mono ?_
    rintro e w29 ⟨A1e, n1e, c1e, A2e, n2e, c2e, rfl, hke, hb30⟩
    clear zs fs xs0 xs1 xs2
    have Z := Lib.hid (heap_below Bls.out hb30)
    clear Bls
    have Bls := Z
    clear Z
    have Z := Lib.hid (heap_below Bla.out hb30)
    clear Bla
    have Bla := Z
    clear Z
    have Z := Lib.hid (heap_below Blb.out hb30)
    clear Blb
    have Blb := Z
    clear Z
    have Z := Lib.hid (heap_below Blc.out hb30)
    clear Blc
    have Blc := Z
    clear Z
    have Z := Lib.hid (StAt.below Kp.out hb30)
    clear Kp
    have Kp := Z
    clear Z
    have Z := Lib.hid (StAt.below Ka.out hb30)
    clear Ka
    have Ka := Z
    clear Z
    have Z := Lib.hid (StAt.below Kb.out hb30)
    clear Kb
    have Kb := Z
    clear Z
    have Z := Lib.hid (StAt.below Kc.out hb30)
    clear Kc
    have Kc := Z
    clear Z
    have BB31 := Lib.hid (bThen BB28.out hb30)
    clear hb30
    have Ke := Lib.hid hke
    clear hke
    go_upto_region 7 with fail
    obtain ⟨W32, hW33⟩ : ∃ X, X = (w29).alloc (.cells #[.slice A1e n1e c1e, .slice A2e n2e c2e, .bool cd] 24) := ⟨_, rfl⟩
    rw [← hW33]
    have hb34 : Below w29.heap.size w29 W32 := by rw [hW33]; exact bel_alloc (Below.refl _ _) _
    have Ne := Lib.hid (show W32.heap[w29.heap.size]? = some (.cells #[.slice A1e n1e c1e, .slice A2e n2e c2e, .bool cd] 24 (0, 0)) by rw [hW33]; exact heap_at (w29) _ (w29.heap.size) (by simp))
    clear hW33
    have Z := Lib.hid (heap_below Bls.out hb34)
    clear Bls
    have Bls := Z
    clear Z
    have Z := Lib.hid (heap_below Bla.out hb34)
    clear Bla
    have Bla := Z
    clear Z
    have Z := Lib.hid (heap_below Blb.out hb34)
    clear Blb
    have Blb := Z
    clear Z
    have Z := Lib.hid (heap_below Blc.out hb34)
    clear Blc
    have Blc := Z
    clear Z
    have Z := Lib.hid (StAt.below Kp.out hb34)
    clear Kp
    have Kp := Z
    clear Z
    have Z := Lib.hid (StAt.below Ka.out hb34)
    clear Ka
    have Ka := Z
    clear Z
    have Z := Lib.hid (StAt.below Kb.out hb34)
    clear Kb
    have Kb := Z
    clear Z
    have Z := Lib.hid (StAt.below Kc.out hb34)
    clear Kc
    have Kc := Z
    clear Z
    have Z := Lib.hid (StAt.below Ke.out hb34)
    clear Ke
    have Ke := Z
    clear Z
    have BB35 := Lib.hid (bThen BB31.out hb34)
    clear hb34
    have Ble := Ne
    clear Ne
    have zs := blk_lt Bls.out
    have xs0 := cellsAt Bls.out 0
    have xs1 := cellsAt Bls.out 1
    have xs2 := cellsAt Bls.out 2
    have fs := frozAt Bls.out
    simp at xs0 xs1 xs2
    go_wp2_with fail
    refine (HD.out _ _ Kp.out).mono ?_
    rintro e w36 ⟨rfl, hb37⟩
    clear zs fs xs0 xs1 xs2
    have Z := Lib.hid (heap_below Bls.out hb37)
    clear Bls
    have Bls := Z
    clear Z
    have Z := Lib.hid (heap_below Bla.out hb37)
    clear Bla
    have Bla := Z
    clear Z
    have Z := Lib.hid (heap_below Blb.out hb37)
    clear Blb
    have Blb := Z
    clear Z
    have Z := Lib.hid (heap_below Blc.out hb37)
    clear Blc
    have Blc := Z
    clear Z
    have Z := Lib.hid (heap_below Ble.out hb37)
    clear Ble
    have Ble := Z
    clear Z
    have Z := Lib.hid (StAt.below Kp.out hb37)
    clear Kp
    have Kp := Z
    clear Z
    have Z := Lib.hid (StAt.below Ka.out hb37)
    clear Ka
    have Ka := Z
    clear Z
    have Z := Lib.hid (StAt.below Kb.out hb37)
    clear Kb
    have Kb := Z
    clear Z
    have Z := Lib.hid (StAt.below Kc.out hb37)
    clear Kc
    have Kc := Z
    clear Z
    have Z := Lib.hid (StAt.below Ke.out hb37)
    clear Ke
    have Ke := Z
    clear Z
    have BB38 := Lib.hid (bThen BB35.out hb37)
    clear hb37
    have zs := blk_lt Bls.out
    have xs0 := cellsAt Bls.out 0
    have xs1 := cellsAt Bls.out 1
    have xs2 := cellsAt Bls.out 2
    have fs := frozAt Bls.out
    simp at xs0 xs1 xs2
    go_wp2_with fail
    refine (HD2.out _ _ Kp.out).mono ?_
    rintro e w39 ⟨rfl, hb40⟩
    clear zs fs xs0 xs1 xs2
    have Z := Lib.hid (heap_below Bls.out hb40)
    clear Bls
    have Bls := Z
    clear Z
    have Z := Lib.hid (heap_below Bla.out hb40)
    clear Bla
    have Bla := Z
    clear Z
    have Z := Lib.hid (heap_below Blb.out hb40)
    clear Blb
    have Blb := Z
    clear Z
    have Z := Lib.hid (heap_below Blc.out hb40)
    clear Blc
    have Blc := Z
    clear Z
    have Z := Lib.hid (heap_below Ble.out hb40)
    clear Ble
    have Ble := Z
    clear Z
    have Z := Lib.hid (StAt.below Kp.out hb40)
    clear Kp
    have Kp := Z
    clear Z
    have Z := Lib.hid (StAt.below Ka.out hb40)
    clear Ka
    have Ka := Z
    clear Z
    have Z := Lib.hid (StAt.below Kb.out hb40)
    clear Kb
    have Kb := Z
    clear Z
    have Z := Lib.hid (StAt.below Kc.out hb40)
    clear Kc
    have Kc := Z
    clear Z
    have Z := Lib.hid (StAt.below Ke.out hb40)
    clear Ke
    have Ke := Z
    clear Z
    have BB41 := Lib.hid (bThen BB38.out hb40)
    clear hb40
    go_upto_region 9 with fail
    have CR := Lib.hid (fun (w' : World) (hb : Below w39.heap.size w39 w') => HR.out w' (Kp.out.below hb))
    have CR2 := Lib.hid (fun (w' : World) (hb : Below w39.heap.size w39 w') => HR2.out w' (Kp.out.below hb))
    have CL := Lib.hid (fun (w' : World) (hb : Below w39.heap.size w39 w') => like_same ws _ _ w' (Ka.out.below hb) (Kb.out.below hb))
    have CM := Lib.hid (fun (w' : World) (hb : Below w39.heap.size w39 w') => like_same cs _ _ w' (Kc.out.below hb) (Ke.out.below hb))
    have hS : Below w39.heap.size w39 w39 ∧ w39.cell? ⟨w.heap.size, 0, none⟩ = some (.slice A m c) ∧ w39.cell? ⟨w.heap.size, 1, none⟩ = some (.slice A' m2 c') ∧ w39.cell? ⟨w.heap.size, 2, none⟩ = some (.bool d) ∧ w39.cell? ⟨w8.heap.size, 0, none⟩ = some (.slice A1a n1a c1a) ∧ w39.cell? ⟨w8.heap.size, 1, none⟩ = some (.slice A2a n2a c2a) ∧ w39.cell? ⟨w8.heap.size, 2, none⟩ = some (.bool wd) ∧ w39.cell? ⟨w15.heap.size, 0, none⟩ = some (.slice A1b n1b c1b) ∧ w39.cell? ⟨w15.heap.size, 1, none⟩ = some (.slice A2b n2b c2b) ∧ w39.cell? ⟨w15.heap.size, 2, none⟩ = some (.bool wd) ∧ w39.cell? ⟨w22.heap.size, 0, none⟩ = some (.slice A1c n1c c1c) ∧ w39.cell? ⟨w22.heap.size, 1, none⟩ = some (.slice A2c n2c c2c) ∧ w39.cell? ⟨w22.heap.size, 2, none⟩ = some (.bool cd) ∧ w39.cell? ⟨w29.heap.size, 0, none⟩ = some (.slice A1e n1e c1e) ∧ w39.cell? ⟨w29.heap.size, 1, none⟩ = some (.slice A2e n2e c2e) ∧ w39.cell? ⟨w29.heap.size, 2, none⟩ = some (.bool cd) := ⟨Below.refl _ _, cellsAt Bls.out 0, cellsAt Bls.out 1, cellsAt Bls.out 2, cellsAt Bla.out 0, cellsAt Bla.out 1, cellsAt Bla.out 2, cellsAt Blb.out 0, cellsAt Blb.out 1, cellsAt Blb.out 2, cellsAt Blc.out 0, cellsAt Blc.out 1, cellsAt Blc.out 2, cellsAt Ble.out 0, cellsAt Ble.out 1, cellsAt Ble.out 2⟩
    have hS1 : (rb.toList == rb.toList) = true := by simp
    have hS2 : (re == re) = true := by simp
    have hS3 : (we == we) = true := by simp
    have hS4 : (ce == ce) = true := by simp
    have Gs := blk_lt Bls.out
    have Ga := blk_lt Bla.out
    have Gb := blk_lt Blb.out
    have Gc := blk_lt Blc.out
    have Ge := blk_lt Ble.out
    have WK := Kp
    have BLS := Bls
    have BBF := BB41
    go_cut [100] (fun v W => v = .bool false ∧ Below w39.heap.size w39 W)
    case first =>
      go_region_held3 (fun w' => Below w39.heap.size w39 w' ∧ w'.cell? ⟨w.heap.size, 0, none⟩ = some (.slice A m c) ∧ w'.cell? ⟨w.heap.size, 1, none⟩ = some (.slice A' m2 c') ∧ w'.cell? ⟨w.heap.size, 2, none⟩ = some (.bool d) ∧ w'.cell? ⟨w8.heap.size, 0, none⟩ = some (.slice A1a n1a c1a) ∧ w'.cell? ⟨w8.heap.size, 1, none⟩ = some (.slice A2a n2a c2a) ∧ w'.cell? ⟨w8.heap.size, 2, none⟩ = some (.bool wd) ∧ w'.cell? ⟨w15.heap.size, 0, none⟩ = some (.slice A1b n1b c1b) ∧ w'.cell? ⟨w15.heap.size, 1, none⟩ = some (.slice A2b n2b c2b) ∧ w'.cell? ⟨w15.heap.size, 2, none⟩ = some (.bool wd) ∧ w'.cell? ⟨w22.heap.size, 0, none⟩ = some (.slice A1c n1c c1c) ∧ w'.cell? ⟨w22.heap.size, 1, none⟩ = some (.slice A2c n2c c2c) ∧ w'.cell? ⟨w22.heap.size, 2, none⟩ = some (.bool cd) ∧ w'.cell? ⟨w29.heap.size, 0, none⟩ = some (.slice A1e n1e c1e) ∧ w'.cell? ⟨w29.heap.size, 1, none⟩ = some (.slice A2e n2e c2e) ∧ w'.cell? ⟨w29.heap.size, 2, none⟩ = some (.bool cd)) (first | assumption | exact keepSD (by assumption) | exact keepS (by assumption) (by assumption) (by assumption) (by assumption) (by assumption) (by assumption) (by assumption)) (first | (go_at_call 12; with_reducible refine (alive_any _).mono ?_; rintro e w3 ⟨rfl, hb3⟩) | (go_at_call 11; with_reducible refine (CR.out _ (And.left (by assumption))).mono ?_; rintro e w3 ⟨rfl, hb3⟩) | (go_at_call 24; with_reducible refine (CR2.out _ (And.left (by assumption))).mono ?_; rintro e w3 ⟨rfl, hb3⟩) | (go_at_call 15; with_reducible refine (CL.out _ (And.left (by assumption))).mono ?_; rintro e w3 ⟨rfl, hb3⟩) | (go_at_call 15; with_reducible refine (CM.out _ (And.left (by assumption))).mono ?_; rintro e w3 ⟨rfl, hb3⟩))
      all_goals
        go_wp2_with fail
        go_meet
        exact ⟨rfl, by first | exact And.left (by assumption) | assumption⟩
    case rest =>
      obtain ⟨rfl, hbc⟩ := hcut
      have Z := Lib.hid (heap_below BLS.out hbc)
      clear Bls
      have Bls := Z
      clear Z
      have Z := Lib.hid (StAt.below WK.out hbc)
      clear Kp
      have Kp := Z
      clear Z
      have BBQ := Lib.hid (bThen BBF.out hbc)
      clear hbc
      have zs := blk_lt Bls.out
      have xs0 := cellsAt Bls.out 0
      have xs1 := cellsAt Bls.out 1
      have xs2 := cellsAt Bls.out 2
      have fs := frozAt Bls.out
      simp at xs0 xs1 xs2
      go_wp2_with fail
      cases rq with
      | false =>
        have HS9 := Lib.hid (fun W v h => ans_of (HST.out W v h) (start_no HRQ.out))
        unfold AnsTo at HS9
        simp only [zS] at HS9
        refine (HS9.out _ _ Kp.out).mono ?_
        rintro e w42 ⟨A1u, n1u, c1u, A2u, n2u, c2u, rfl, hku, hb43⟩
        clear zs fs xs0 xs1 xs2
        have Z := Lib.hid (heap_below Bls.out hb43)
        clear Bls
        have Bls := Z
        clear Z
        have Z := Lib.hid (StAt.below Kp.out hb43)
        clear Kp
        have Kp := Z
        clear Z
        have BB44 := Lib.hid (bThen BBQ.out hb43)
        clear hb43
        have Ku := Lib.hid hku
        clear hku
        go_upto_region 12 with fail
        obtain ⟨W45, hW46⟩ : ∃ X, X = (w42).alloc (.cells #[.slice A1u n1u c1u, .slice A2u n2u c2u, .bool false] 24) := ⟨_, rfl⟩
        rw [← hW46]
        have hb47 : Below w42.heap.size w42 W45 := by rw [hW46]; exact bel_alloc (Below.refl _ _) _
        have Nu := Lib.hid (show W45.heap[w42.heap.size]? = some (.cells #[.slice A1u n1u c1u, .slice A2u n2u c2u, .bool false] 24 (0, 0)) by rw [hW46]; exact heap_at (w42) _ (w42.heap.size) (by simp))
        clear hW46
        have Z := Lib.hid (heap_below Bls.out hb47)
        clear Bls
        have Bls := Z
        clear Z
        have Z := Lib.hid (StAt.below Kp.out hb47)
        clear Kp
        have Kp := Z
        clear Z
        have Z := Lib.hid (StAt.below Ku.out hb47)
        clear Ku
        have Ku := Z
        clear Z
        have BB48 := Lib.hid (bThen BB44.out hb47)
        clear hb47
        have Blu := Nu
        clear Nu
        have zs := blk_lt Bls.out
        have xs0 := cellsAt Bls.out 0
        have xs1 := cellsAt Bls.out 1
        have xs2 := cellsAt Bls.out 2
        have fs := frozAt Bls.out
        simp at xs0 xs1 xs2
        go_wp2_with fail
        refine (HR2.out _ Kp.out).mono ?_
        rintro e w49 ⟨rfl, hb50⟩
        clear zs fs xs0 xs1 xs2
        have Z := Lib.hid (heap_below Bls.out hb50)
        clear Bls
        have Bls := Z
        clear Z
        have Z := Lib.hid (heap_below Blu.out hb50)
        clear Blu
        have Blu := Z
        clear Z
        have Z := Lib.hid (StAt.below Kp.out hb50)
        clear Kp
        have Kp := Z
        clear Z
        have Z := Lib.hid (StAt.below Ku.out hb50)
        clear Ku
        have Ku := Z
        clear Z
        have BB51 := Lib.hid (bThen BB48.out hb50)
        clear hb50
        have zs := blk_lt Bls.out
        have xs0 := cellsAt Bls.out 0
        have xs1 := cellsAt Bls.out 1
        have xs2 := cellsAt Bls.out 2
        have fs := frozAt Bls.out
        simp at xs0 xs1 xs2
        have zu := blk_lt Blu.out
        have xu0 := cellsAt Blu.out 0
        have xu1 := cellsAt Blu.out 1
        have xu2 := cellsAt Blu.out 2
        have fu := frozAt Blu.out
        simp at xu0 xu1 xu2
        go_wp2_with fail
        refine (like_same zS _ _ _ Ku.out (zS_at _)).mono ?_
        rintro e w52 ⟨rfl, hb53⟩
        clear zs fs xs0 xs1 xs2 zu fu xu0 xu1 xu2
        have Z := Lib.hid (heap_below Bls.out hb53)
        clear Bls
        have Bls := Z
        clear Z
        have Z := Lib.hid (heap_below Blu.out hb53)
        clear Blu
        have Blu := Z
        clear Z
        have Z := Lib.hid (StAt.below Kp.out hb53)
        clear Kp
        have Kp := Z
        clear Z
        have Z := Lib.hid (StAt.below Ku.out hb53)
        clear Ku
        have Ku := Z
        clear Z
        have BB54 := Lib.hid (bThen BB51.out hb53)
        clear hb53
        go_wp2_with fail
        go_ret
        exact ⟨rfl, BB54.out⟩
      | true =>
        have HS9 := Lib.hid (fun W v h => ans_of (HST.out W v h) (start_yes HRQ.out))
        unfold AnsTo at HS9
        simp only at HS9
        refine (HS9.out _ _ Kp.out).mono ?_
        rintro e w42 ⟨A1u, n1u, c1u, A2u, n2u, c2u, rfl, hku, hb43⟩
        clear zs fs xs0 xs1 xs2
        have Z := Lib.hid (heap_below Bls.out hb43)
        clear Bls
        have Bls := Z
        clear Z
        have Z := Lib.hid (StAt.below Kp.out hb43)
        clear Kp
        have Kp := Z
        clear Z
        have BB44 := Lib.hid (bThen BBQ.out hb43)
        clear hb43
        have Ku := Lib.hid hku
        clear hku
        go_upto_region 12 with fail
        obtain ⟨W45, hW46⟩ : ∃ X, X = (w42).alloc (.cells #[.slice A1u n1u c1u, .slice A2u n2u c2u, .bool false] 24) := ⟨_, rfl⟩
        rw [← hW46]
        have hb47 : Below w42.heap.size w42 W45 := by rw [hW46]; exact bel_alloc (Below.refl _ _) _
        have Nu := Lib.hid (show W45.heap[w42.heap.size]? = some (.cells #[.slice A1u n1u c1u, .slice A2u n2u c2u, .bool false] 24 (0, 0)) by rw [hW46]; exact heap_at (w42) _ (w42.heap.size) (by simp))
        clear hW46
        have Z := Lib.hid (heap_below Bls.out hb47)
        clear Bls
        have Bls := Z
        clear Z
        have Z := Lib.hid (StAt.below Kp.out hb47)
        clear Kp
        have Kp := Z
        clear Z
        have Z := Lib.hid (StAt.below Ku.out hb47)
        clear Ku
        have Ku := Z
        clear Z
        have BB48 := Lib.hid (bThen BB44.out hb47)
        clear hb47
        have Blu := Nu
        clear Nu
        have zs := blk_lt Bls.out
        have xs0 := cellsAt Bls.out 0
        have xs1 := cellsAt Bls.out 1
        have xs2 := cellsAt Bls.out 2
        have fs := frozAt Bls.out
        simp at xs0 xs1 xs2
        go_wp2_with fail
        refine (HR2.out _ Kp.out).mono ?_
        rintro e w49 ⟨rfl, hb50⟩
        clear zs fs xs0 xs1 xs2
        have Z := Lib.hid (heap_below Bls.out hb50)
        clear Bls
        have Bls := Z
        clear Z
        have Z := Lib.hid (heap_below Blu.out hb50)
        clear Blu
        have Blu := Z
        clear Z
        have Z := Lib.hid (StAt.below Kp.out hb50)
        clear Kp
        have Kp := Z
        clear Z
        have Z := Lib.hid (StAt.below Ku.out hb50)
        clear Ku
        have Ku := Z
        clear Z
        have BB51 := Lib.hid (bThen BB48.out hb50)
        clear hb50
        have zs := blk_lt Bls.out
        have xs0 := cellsAt Bls.out 0
        have xs1 := cellsAt Bls.out 1
        have xs2 := cellsAt Bls.out 2
        have fs := frozAt Bls.out
        simp at xs0 xs1 xs2
        have zu := blk_lt Blu.out
        have xu0 := cellsAt Blu.out 0
        have xu1 := cellsAt Blu.out 1
        have xu2 := cellsAt Blu.out 2
        have fu := frozAt Blu.out
        simp at xu0 xu1 xu2
        go_wp2_with fail
        refine (like_same ⟨s.c, [], false⟩ _ _ _ Ku.out ⟨_, _, rfl, Kp.out.rows.1, OkRow.none_ _⟩).mono ?_
        rintro e w52 ⟨rfl, hb53⟩
        clear zs fs xs0 xs1 xs2 zu fu xu0 xu1 xu2
        have Z := Lib.hid (heap_below Bls.out hb53)
        clear Bls
        have Bls := Z
        clear Z
        have Z := Lib.hid (heap_below Blu.out hb53)
        clear Blu
        have Blu := Z
        clear Z
        have Z := Lib.hid (StAt.below Kp.out hb53)
        clear Kp
        have Kp := Z
        clear Z
        have Z := Lib.hid (StAt.below Ku.out hb53)
        clear Ku
        have Ku := Z
        clear Z
        have BB54 := Lib.hid (bThen BB51.out hb53)
        clear hb53
        go_wp2_with fail
        go_ret
        exact ⟨rfl, BB54.out⟩
end Go.Proofs.Ytlboehpgpbchhaa
