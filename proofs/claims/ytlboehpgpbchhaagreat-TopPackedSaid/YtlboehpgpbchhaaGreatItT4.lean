/-
  WALKS: the texts -ItemW1, -ItemW2, -ItemW3, -ItemW4, -ItemW5, -ItemW6, -ItemW7, -ItemW8, -ItemW9, -ItemW10, -ItemW11, -ItemW12, -ItemW13, -ItemW14, -ItemW15, -ItemW16, -ItemW17, -ItemW18, -ItemW19, -ItemW20, ItemW21, ItemW22, ItemW23, ItemW24, ItemW25, but for what speaks of functions that are not here (progonly.py).
-/
import Derived.Test.YtlboehpgpbchhaaGreatItT3
import Derived.RegionTactic
import Derived.Outline
set_option linter.unusedVariables false
set_option linter.unusedSimpArgs false
namespace Go.Proofs.YtlboehpgpbchhaaGreat.Itm
open Go.RowKit
set_option maxHeartbeats 2000000 in
set_option maxRecDepth 100000 in
theorem get_0 (s : ByteArray) (w : World) (hs : s.size ≤ 140737488355328) (a0 b0 : Int) (h0 : numP s 0 0 = (0, a0, b0)) (hb0 : b0 ≠ 0) (R : It × Int) (hR : fin s { itZ with kind := 0 } a0 b0 = R) :
    Calls Tryz.prog 11 #[.string s] w fun e w' => e = .returned (.tuple #[itV R.1, .int .i64 R.2]) ∧ Below w.heap.size w w' := by
  have S0 := Lib.hid (St.start w s 101 0 0)
  have H0 := Lib.hid h0
  clear h0
  have HR := Lib.hid hR
  clear hR
  have Hs := Lib.hid hs
  clear hs
  have hq0 : (b0 == 0) = false := beq_eq_false_iff_ne.2 hb0
  have Hb0 := Lib.hid hb0
  clear hb0
  go_enter Tryz.func11, Tryz.ntmps11
  go_wp2_with fail
  refine (read_num _ s 0 0 _ _ _ _ S0.out.rd Hs.out H0.out).mono ?_
  rintro e w1 ⟨rfl, hw⟩
  have S1 := Lib.hid (S0.out.read hw)
  clear hw S0
  have SF := Lib.hid (S1.out.put 0 (.int .i64 0) { itZ with kind := 0 } rfl)
  have BB : Below w.heap.size w w1 := S1.out.bel
  have c0 := cellsAt S1.out.it 0
  have c1 := cellsAt S1.out.it 1
  have c2 := cellsAt S1.out.it 2
  have c3 := cellsAt S1.out.it 3
  have c4 := cellsAt S1.out.it 4
  have c5 := cellsAt S1.out.it 5
  have c6 := cellsAt S1.out.it 6
  have c7 := cellsAt S1.out.it 7
  have c8 := cellsAt S1.out.it 8
  have c9 := cellsAt S1.out.it 9
  have c10 := cellsAt S1.out.it 10
  simp [itC, itZ] at c0 c1 c2 c3 c4 c5 c6 c7 c8 c9 c10
  have fj := frozAt S1.out.it 0
  have z0 := cellsAt S1.out.res 0
  have f0 := frozAt S1.out.res 0
  have z1 := cellsAt S1.out.res 1
  have f1 := frozAt S1.out.res 1
  have z2 := cellsAt S1.out.res 2
  have f2 := frozAt S1.out.res 2
  have z3 := cellsAt S1.out.res 3
  have f3 := frozAt S1.out.res 3
  have z4 := cellsAt S1.out.res 4
  have f4 := frozAt S1.out.res 4
  have z5 := cellsAt S1.out.res 5
  have f5 := frozAt S1.out.res 5
  have z6 := cellsAt S1.out.res 6
  have f6 := frozAt S1.out.res 6
  have z7 := cellsAt S1.out.res 7
  have f7 := frozAt S1.out.res 7
  have z8 := cellsAt S1.out.res 8
  have f8 := frozAt S1.out.res 8
  have z9 := cellsAt S1.out.res 9
  have f9 := frozAt S1.out.res 9
  have z10 := cellsAt S1.out.res 10
  have f10 := frozAt S1.out.res 10
  simp [itC, itZ] at z0 z1 z2 z3 z4 z5 z6 z7 z8 z9 z10
  have q1 := cellsAt S1.out.rd 1
  have q2 := cellsAt S1.out.rd 2
  simp at q1 q2
  have hb2 : (b0 != 0) = true := by simpa using Hb0.out
  go_wp2_with fail
  go_region
  go_wp2_with fail
  exact bodyPost_ret (v := .tuple #[.agg #[.int .i64 0, .string ⟨#[]⟩, .int .i64 0, .int .i64 0, .int .i64 0, .int .i64 0, .int .i64 0, .int .i64 0, .string ⟨#[]⟩, .int .i64 0, .int .i64 0], .int .i64 b0]) (by simp [results, Tryz.results11, go_sem, z0, z1, z2, z3, z4, z5, z6, z7, z8, z9, z10]) rfl ⟨by rw [fin_b HR.out Hb0.out]; rfl, by repeat' (first | (with_reducible assumption) | (with_reducible refine Below.drew ?_) | (with_reducible refine Below.setCell ?_ (by show w.heap.size ≤ _; simp; try omega) _))⟩
set_option maxHeartbeats 2000000 in
set_option maxRecDepth 100000 in
theorem get_1 (s : ByteArray) (w : World) (hs : s.size ≤ 140737488355328) (a0 : Int) (h0 : numP s 0 0 = (1, a0, 0)) (ek : ByteArray) (a1 b1 : Int) (h1 : txtP s a0 0 = (ek, a1, b1)) (ea : Int) (a2 b2 : Int) (h2 : numP s a1 b1 = (ea, a2, b2)) (ev : Int) (a3 b3 : Int) (h3 : sgnP s a2 b2 = (ev, a3, b3)) (R : It × Int) (hR : fin s { itZ with kind := 1, ek := ek, ea := ea, ev := ev } a3 b3 = R) :
    Calls Tryz.prog 11 #[.string s] w fun e w' => e = .returned (.tuple #[itV R.1, .int .i64 R.2]) ∧ Below w.heap.size w w' := by
  have S0 := Lib.hid (St.start w s 101 0 0)
  have H0 := Lib.hid h0
  clear h0
  have H1 := Lib.hid h1
  clear h1
  have H2 := Lib.hid h2
  clear h2
  have H3 := Lib.hid h3
  clear h3
  have HR := Lib.hid hR
  clear hR
  have Hs := Lib.hid hs
  clear hs
  go_enter Tryz.func11, Tryz.ntmps11
  go_wp2_with fail
  refine (read_num _ s 0 0 _ _ _ _ S0.out.rd Hs.out H0.out).mono ?_
  rintro e w1 ⟨rfl, hw⟩
  have S1 := Lib.hid (S0.out.read hw)
  clear hw S0
  have q2 := cellsAt S1.out.rd 2
  have cj := cellsAt S1.out.it 0
  have fj := frozAt S1.out.it 0
  simp [itC, itZ] at q2 cj
  go_wp2_with fail
  refine (read_txt _ s a0 0 _ _ _ _ (S1.out.put 0 (.int .i64 1) { itZ with kind := 1 } rfl).rd Hs.out H1.out).mono ?_
  rintro e w2 ⟨rfl, hw⟩
  have S2 := Lib.hid ((S1.out.put 0 (.int .i64 1) { itZ with kind := 1 } rfl).read hw)
  clear hw S1 q2 cj fj
  have q2 := cellsAt S2.out.rd 2
  have cj := cellsAt S2.out.it 1
  have fj := frozAt S2.out.it 1
  simp [itC, itZ] at q2 cj
  go_wp2_with fail
  refine (read_num _ s a1 b1 _ _ _ _ (S2.out.put 1 (.string ek) { itZ with kind := 1, ek := ek } rfl).rd Hs.out H2.out).mono ?_
  rintro e w3 ⟨rfl, hw⟩
  have S3 := Lib.hid ((S2.out.put 1 (.string ek) { itZ with kind := 1, ek := ek } rfl).read hw)
  clear hw S2 q2 cj fj
  have q2 := cellsAt S3.out.rd 2
  have cj := cellsAt S3.out.it 2
  have fj := frozAt S3.out.it 2
  simp [itC, itZ] at q2 cj
  go_wp2_with fail
  refine (read_sgn _ s a2 b2 _ _ _ _ (S3.out.put 2 (.int .i64 ea) { itZ with kind := 1, ek := ek, ea := ea } rfl).rd Hs.out H3.out).mono ?_
  rintro e w4 ⟨rfl, hw⟩
  have S4 := Lib.hid ((S3.out.put 2 (.int .i64 ea) { itZ with kind := 1, ek := ek, ea := ea } rfl).read hw)
  clear hw S3 q2 cj fj
  have SF := Lib.hid (S4.out.put 3 (.int .i64 ev) { itZ with kind := 1, ek := ek, ea := ea, ev := ev } rfl)
  have BB : Below w.heap.size w w4 := S4.out.bel
  have c0 := cellsAt S4.out.it 0
  have c1 := cellsAt S4.out.it 1
  have c2 := cellsAt S4.out.it 2
  have c3 := cellsAt S4.out.it 3
  have c4 := cellsAt S4.out.it 4
  have c5 := cellsAt S4.out.it 5
  have c6 := cellsAt S4.out.it 6
  have c7 := cellsAt S4.out.it 7
  have c8 := cellsAt S4.out.it 8
  have c9 := cellsAt S4.out.it 9
  have c10 := cellsAt S4.out.it 10
  simp [itC, itZ] at c0 c1 c2 c3 c4 c5 c6 c7 c8 c9 c10
  have fj := frozAt S4.out.it 3
  have z0 := cellsAt S4.out.res 0
  have f0 := frozAt S4.out.res 0
  have z1 := cellsAt S4.out.res 1
  have f1 := frozAt S4.out.res 1
  have z2 := cellsAt S4.out.res 2
  have f2 := frozAt S4.out.res 2
  have z3 := cellsAt S4.out.res 3
  have f3 := frozAt S4.out.res 3
  have z4 := cellsAt S4.out.res 4
  have f4 := frozAt S4.out.res 4
  have z5 := cellsAt S4.out.res 5
  have f5 := frozAt S4.out.res 5
  have z6 := cellsAt S4.out.res 6
  have f6 := frozAt S4.out.res 6
  have z7 := cellsAt S4.out.res 7
  have f7 := frozAt S4.out.res 7
  have z8 := cellsAt S4.out.res 8
  have f8 := frozAt S4.out.res 8
  have z9 := cellsAt S4.out.res 9
  have f9 := frozAt S4.out.res 9
  have z10 := cellsAt S4.out.res 10
  have f10 := frozAt S4.out.res 10
  simp [itC, itZ] at z0 z1 z2 z3 z4 z5 z6 z7 z8 z9 z10
  have q1 := cellsAt S4.out.rd 1
  have q2 := cellsAt S4.out.rd 2
  simp at q1 q2
  by_cases hb : b3 ≠ 0
  · have hb2 : (b3 != 0) = true := by simpa using hb
    have Hb := Lib.hid hb
    clear hb
    go_wp2_with fail
    go_region
    go_wp2_with fail
    exact bodyPost_ret (v := .tuple #[.agg #[.int .i64 0, .string ⟨#[]⟩, .int .i64 0, .int .i64 0, .int .i64 0, .int .i64 0, .int .i64 0, .int .i64 0, .string ⟨#[]⟩, .int .i64 0, .int .i64 0], .int .i64 b3]) (by simp [results, Tryz.results11, go_sem, z0, z1, z2, z3, z4, z5, z6, z7, z8, z9, z10]) rfl ⟨by rw [fin_b HR.out Hb.out]; rfl, by repeat' (first | (with_reducible assumption) | (with_reducible refine Below.drew ?_) | (with_reducible refine Below.setCell ?_ (by show w.heap.size ≤ _; simp; try omega) _))⟩
  have hb := Decidable.not_not.1 hb
  have hB := HR.out
  rw [hb] at hB q2
  have HB := Lib.hid hB
  clear hB hb HR
  by_cases ha : a3 < (s.size : Int)
  · have Ha := Lib.hid ha
    go_wp2_with fail
    exact bodyPost_ret (v := .tuple #[.agg #[.int .i64 0, .string ⟨#[]⟩, .int .i64 0, .int .i64 0, .int .i64 0, .int .i64 0, .int .i64 0, .int .i64 0, .string ⟨#[]⟩, .int .i64 0, .int .i64 0], .int .i64 21]) (by simp [results, Tryz.results11, go_sem, z0, z1, z2, z3, z4, z5, z6, z7, z8, z9, z10]) rfl ⟨by rw [fin_a HB.out Ha.out]; rfl, by repeat' (first | (with_reducible assumption) | (with_reducible refine Below.drew ?_) | (with_reducible refine Below.setCell ?_ (by show w.heap.size ≤ _; simp; try omega) _))⟩
  have Ha := Lib.hid ha
  obtain ⟨q, hq⟩ : ∃ q, rightI { itZ with kind := 1, ek := ek, ea := ea, ev := ev } = q := ⟨_, rfl⟩
  have HC : Hid (∀ W, Calls Tryz.prog 24 #[.agg #[.int .i64 1, .string ek, .int .i64 ea, .int .i64 ev, .int .i64 0, .int .i64 0, .int .i64 0, .int .i64 0, .string ⟨#[]⟩, .int .i64 0, .int .i64 0]] W fun e w' => e = .returned (.bool q) ∧ Below W.heap.size W w') := Lib.hid (fun W => right_any { itZ with kind := 1, ek := ek, ea := ea, ev := ev } W q hq)
  have Hq := Lib.hid hq
  clear hq
  go_wp2_with fail
  refine (HC.out _).mono ?_
  rintro e w9 ⟨rfl, hb9⟩
  obtain ⟨k0, -, k2, kb⟩ := SF.out.kept hb9
  clear hb9 BB c0 c1 c2 c3 c4 c5 c6 c7 c8 c9 c10 z0 z1 z2 z3 z4 z5 z6 z7 z8 z9 z10 f0 f1 f2 f3 f4 f5 f6 f7 f8 f9 f10 fj q1 q2
  have c0 := cellsAt k2 0
  have z0 := cellsAt k0 0
  have f0 := frozAt k0 0
  have c1 := cellsAt k2 1
  have z1 := cellsAt k0 1
  have f1 := frozAt k0 1
  have c2 := cellsAt k2 2
  have z2 := cellsAt k0 2
  have f2 := frozAt k0 2
  have c3 := cellsAt k2 3
  have z3 := cellsAt k0 3
  have f3 := frozAt k0 3
  have c4 := cellsAt k2 4
  have z4 := cellsAt k0 4
  have f4 := frozAt k0 4
  have c5 := cellsAt k2 5
  have z5 := cellsAt k0 5
  have f5 := frozAt k0 5
  have c6 := cellsAt k2 6
  have z6 := cellsAt k0 6
  have f6 := frozAt k0 6
  have c7 := cellsAt k2 7
  have z7 := cellsAt k0 7
  have f7 := frozAt k0 7
  have c8 := cellsAt k2 8
  have z8 := cellsAt k0 8
  have f8 := frozAt k0 8
  have c9 := cellsAt k2 9
  have z9 := cellsAt k0 9
  have f9 := frozAt k0 9
  have c10 := cellsAt k2 10
  have z10 := cellsAt k0 10
  have f10 := frozAt k0 10
  simp [itC, itZ] at c0 c1 c2 c3 c4 c5 c6 c7 c8 c9 c10 z0 z1 z2 z3 z4 z5 z6 z7 z8 z9 z10
  clear k0 k2
  cases q with
  | false =>
    go_wp2_with fail
    exact bodyPost_ret (v := .tuple #[.agg #[.int .i64 0, .string ⟨#[]⟩, .int .i64 0, .int .i64 0, .int .i64 0, .int .i64 0, .int .i64 0, .int .i64 0, .string ⟨#[]⟩, .int .i64 0, .int .i64 0], .int .i64 1]) (by simp [results, Tryz.results11, go_sem, z0, z1, z2, z3, z4, z5, z6, z7, z8, z9, z10]) rfl ⟨by rw [fin_r HB.out (by have := Ha.out; omega) Hq.out]; rfl, by repeat' (first | (with_reducible assumption) | (with_reducible refine Below.drew ?_) | (with_reducible refine Below.setCell ?_ (by show w.heap.size ≤ _; simp; try omega) _))⟩
  | true =>
    go_wp2_with fail
    exact bodyPost_ret (v := .tuple #[.agg #[.int .i64 1, .string ek, .int .i64 ea, .int .i64 ev, .int .i64 0, .int .i64 0, .int .i64 0, .int .i64 0, .string ⟨#[]⟩, .int .i64 0, .int .i64 0], .int .i64 0]) (by simp [results, Tryz.results11, go_sem, z0, z1, z2, z3, z4, z5, z6, z7, z8, z9, z10]) rfl ⟨by rw [fin_i HB.out (by have := Ha.out; omega) Hq.out]; rfl, by repeat' (first | (with_reducible assumption) | (with_reducible refine Below.drew ?_) | (with_reducible refine Below.setCell ?_ (by show w.heap.size ≤ _; simp; try omega) _))⟩
set_option maxHeartbeats 2000000 in
set_option maxRecDepth 100000 in
theorem get_2 (s : ByteArray) (w : World) (hs : s.size ≤ 140737488355328) (a0 : Int) (h0 : numP s 0 0 = (2, a0, 0)) (ma : Int) (a1 b1 : Int) (h1 : numP s a0 0 = (ma, a1, b1)) (R : It × Int) (hR : fin s { itZ with kind := 2, ma := ma } a1 b1 = R) :
    Calls Tryz.prog 11 #[.string s] w fun e w' => e = .returned (.tuple #[itV R.1, .int .i64 R.2]) ∧ Below w.heap.size w w' := by
  have S0 := Lib.hid (St.start w s 101 0 0)
  have H0 := Lib.hid h0
  clear h0
  have H1 := Lib.hid h1
  clear h1
  have HR := Lib.hid hR
  clear hR
  have Hs := Lib.hid hs
  clear hs
  go_enter Tryz.func11, Tryz.ntmps11
  go_wp2_with fail
  refine (read_num _ s 0 0 _ _ _ _ S0.out.rd Hs.out H0.out).mono ?_
  rintro e w1 ⟨rfl, hw⟩
  have S1 := Lib.hid (S0.out.read hw)
  clear hw S0
  have q2 := cellsAt S1.out.rd 2
  have cj := cellsAt S1.out.it 0
  have fj := frozAt S1.out.it 0
  simp [itC, itZ] at q2 cj
  go_wp2_with fail
  refine (read_num _ s a0 0 _ _ _ _ (S1.out.put 0 (.int .i64 2) { itZ with kind := 2 } rfl).rd Hs.out H1.out).mono ?_
  rintro e w2 ⟨rfl, hw⟩
  have S2 := Lib.hid ((S1.out.put 0 (.int .i64 2) { itZ with kind := 2 } rfl).read hw)
  clear hw S1 q2 cj fj
  have SF := Lib.hid (S2.out.put 4 (.int .i64 ma) { itZ with kind := 2, ma := ma } rfl)
  have BB : Below w.heap.size w w2 := S2.out.bel
  have c0 := cellsAt S2.out.it 0
  have c1 := cellsAt S2.out.it 1
  have c2 := cellsAt S2.out.it 2
  have c3 := cellsAt S2.out.it 3
  have c4 := cellsAt S2.out.it 4
  have c5 := cellsAt S2.out.it 5
  have c6 := cellsAt S2.out.it 6
  have c7 := cellsAt S2.out.it 7
  have c8 := cellsAt S2.out.it 8
  have c9 := cellsAt S2.out.it 9
  have c10 := cellsAt S2.out.it 10
  simp [itC, itZ] at c0 c1 c2 c3 c4 c5 c6 c7 c8 c9 c10
  have fj := frozAt S2.out.it 4
  have z0 := cellsAt S2.out.res 0
  have f0 := frozAt S2.out.res 0
  have z1 := cellsAt S2.out.res 1
  have f1 := frozAt S2.out.res 1
  have z2 := cellsAt S2.out.res 2
  have f2 := frozAt S2.out.res 2
  have z3 := cellsAt S2.out.res 3
  have f3 := frozAt S2.out.res 3
  have z4 := cellsAt S2.out.res 4
  have f4 := frozAt S2.out.res 4
  have z5 := cellsAt S2.out.res 5
  have f5 := frozAt S2.out.res 5
  have z6 := cellsAt S2.out.res 6
  have f6 := frozAt S2.out.res 6
  have z7 := cellsAt S2.out.res 7
  have f7 := frozAt S2.out.res 7
  have z8 := cellsAt S2.out.res 8
  have f8 := frozAt S2.out.res 8
  have z9 := cellsAt S2.out.res 9
  have f9 := frozAt S2.out.res 9
  have z10 := cellsAt S2.out.res 10
  have f10 := frozAt S2.out.res 10
  simp [itC, itZ] at z0 z1 z2 z3 z4 z5 z6 z7 z8 z9 z10
  have q1 := cellsAt S2.out.rd 1
  have q2 := cellsAt S2.out.rd 2
  simp at q1 q2
  by_cases hb : b1 ≠ 0
  · have hb2 : (b1 != 0) = true := by simpa using hb
    have Hb := Lib.hid hb
    clear hb
    go_wp2_with fail
    go_region
    go_wp2_with fail
    exact bodyPost_ret (v := .tuple #[.agg #[.int .i64 0, .string ⟨#[]⟩, .int .i64 0, .int .i64 0, .int .i64 0, .int .i64 0, .int .i64 0, .int .i64 0, .string ⟨#[]⟩, .int .i64 0, .int .i64 0], .int .i64 b1]) (by simp [results, Tryz.results11, go_sem, z0, z1, z2, z3, z4, z5, z6, z7, z8, z9, z10]) rfl ⟨by rw [fin_b HR.out Hb.out]; rfl, by repeat' (first | (with_reducible assumption) | (with_reducible refine Below.drew ?_) | (with_reducible refine Below.setCell ?_ (by show w.heap.size ≤ _; simp; try omega) _))⟩
  have hb := Decidable.not_not.1 hb
  have hB := HR.out
  rw [hb] at hB q2
  have HB := Lib.hid hB
  clear hB hb HR
  by_cases ha : a1 < (s.size : Int)
  · have Ha := Lib.hid ha
    go_wp2_with fail
    exact bodyPost_ret (v := .tuple #[.agg #[.int .i64 0, .string ⟨#[]⟩, .int .i64 0, .int .i64 0, .int .i64 0, .int .i64 0, .int .i64 0, .int .i64 0, .string ⟨#[]⟩, .int .i64 0, .int .i64 0], .int .i64 21]) (by simp [results, Tryz.results11, go_sem, z0, z1, z2, z3, z4, z5, z6, z7, z8, z9, z10]) rfl ⟨by rw [fin_a HB.out Ha.out]; rfl, by repeat' (first | (with_reducible assumption) | (with_reducible refine Below.drew ?_) | (with_reducible refine Below.setCell ?_ (by show w.heap.size ≤ _; simp; try omega) _))⟩
  have Ha := Lib.hid ha
  obtain ⟨q, hq⟩ : ∃ q, rightI { itZ with kind := 2, ma := ma } = q := ⟨_, rfl⟩
  have HC : Hid (∀ W, Calls Tryz.prog 24 #[.agg #[.int .i64 2, .string ⟨#[]⟩, .int .i64 0, .int .i64 0, .int .i64 ma, .int .i64 0, .int .i64 0, .int .i64 0, .string ⟨#[]⟩, .int .i64 0, .int .i64 0]] W fun e w' => e = .returned (.bool q) ∧ Below W.heap.size W w') := Lib.hid (fun W => right_any { itZ with kind := 2, ma := ma } W q hq)
  have Hq := Lib.hid hq
  clear hq
  go_wp2_with fail
  refine (HC.out _).mono ?_
  rintro e w9 ⟨rfl, hb9⟩
  obtain ⟨k0, -, k2, kb⟩ := SF.out.kept hb9
  clear hb9 BB c0 c1 c2 c3 c4 c5 c6 c7 c8 c9 c10 z0 z1 z2 z3 z4 z5 z6 z7 z8 z9 z10 f0 f1 f2 f3 f4 f5 f6 f7 f8 f9 f10 fj q1 q2
  have c0 := cellsAt k2 0
  have z0 := cellsAt k0 0
  have f0 := frozAt k0 0
  have c1 := cellsAt k2 1
  have z1 := cellsAt k0 1
  have f1 := frozAt k0 1
  have c2 := cellsAt k2 2
  have z2 := cellsAt k0 2
  have f2 := frozAt k0 2
  have c3 := cellsAt k2 3
  have z3 := cellsAt k0 3
  have f3 := frozAt k0 3
  have c4 := cellsAt k2 4
  have z4 := cellsAt k0 4
  have f4 := frozAt k0 4
  have c5 := cellsAt k2 5
  have z5 := cellsAt k0 5
  have f5 := frozAt k0 5
  have c6 := cellsAt k2 6
  have z6 := cellsAt k0 6
  have f6 := frozAt k0 6
  have c7 := cellsAt k2 7
  have z7 := cellsAt k0 7
  have f7 := frozAt k0 7
  have c8 := cellsAt k2 8
  have z8 := cellsAt k0 8
  have f8 := frozAt k0 8
  have c9 := cellsAt k2 9
  have z9 := cellsAt k0 9
  have f9 := frozAt k0 9
  have c10 := cellsAt k2 10
  have z10 := cellsAt k0 10
  have f10 := frozAt k0 10
  simp [itC, itZ] at c0 c1 c2 c3 c4 c5 c6 c7 c8 c9 c10 z0 z1 z2 z3 z4 z5 z6 z7 z8 z9 z10
  clear k0 k2
  cases q with
  | false =>
    go_wp2_with fail
    exact bodyPost_ret (v := .tuple #[.agg #[.int .i64 0, .string ⟨#[]⟩, .int .i64 0, .int .i64 0, .int .i64 0, .int .i64 0, .int .i64 0, .int .i64 0, .string ⟨#[]⟩, .int .i64 0, .int .i64 0], .int .i64 1]) (by simp [results, Tryz.results11, go_sem, z0, z1, z2, z3, z4, z5, z6, z7, z8, z9, z10]) rfl ⟨by rw [fin_r HB.out (by have := Ha.out; omega) Hq.out]; rfl, by repeat' (first | (with_reducible assumption) | (with_reducible refine Below.drew ?_) | (with_reducible refine Below.setCell ?_ (by show w.heap.size ≤ _; simp; try omega) _))⟩
  | true =>
    go_wp2_with fail
    exact bodyPost_ret (v := .tuple #[.agg #[.int .i64 2, .string ⟨#[]⟩, .int .i64 0, .int .i64 0, .int .i64 ma, .int .i64 0, .int .i64 0, .int .i64 0, .string ⟨#[]⟩, .int .i64 0, .int .i64 0], .int .i64 0]) (by simp [results, Tryz.results11, go_sem, z0, z1, z2, z3, z4, z5, z6, z7, z8, z9, z10]) rfl ⟨by rw [fin_i HB.out (by have := Ha.out; omega) Hq.out]; rfl, by repeat' (first | (with_reducible assumption) | (with_reducible refine Below.drew ?_) | (with_reducible refine Below.setCell ?_ (by show w.heap.size ≤ _; simp; try omega) _))⟩
set_option maxHeartbeats 2000000 in
set_option maxRecDepth 100000 in
theorem get_3 (s : ByteArray) (w : World) (hs : s.size ≤ 140737488355328) (a0 : Int) (h0 : numP s 0 0 = (3, a0, 0)) (R : It × Int) (hR : fin s { itZ with kind := 3 } a0 0 = R) :
    Calls Tryz.prog 11 #[.string s] w fun e w' => e = .returned (.tuple #[itV R.1, .int .i64 R.2]) ∧ Below w.heap.size w w' := by
  have S0 := Lib.hid (St.start w s 101 0 0)
  have H0 := Lib.hid h0
  clear h0
  have HR := Lib.hid hR
  clear hR
  have Hs := Lib.hid hs
  clear hs
  go_enter Tryz.func11, Tryz.ntmps11
  go_wp2_with fail
  refine (read_num _ s 0 0 _ _ _ _ S0.out.rd Hs.out H0.out).mono ?_
  rintro e w1 ⟨rfl, hw⟩
  have S1 := Lib.hid (S0.out.read hw)
  clear hw S0
  have SF := Lib.hid (S1.out.put 0 (.int .i64 3) { itZ with kind := 3 } rfl)
  have BB : Below w.heap.size w w1 := S1.out.bel
  have c0 := cellsAt S1.out.it 0
  have c1 := cellsAt S1.out.it 1
  have c2 := cellsAt S1.out.it 2
  have c3 := cellsAt S1.out.it 3
  have c4 := cellsAt S1.out.it 4
  have c5 := cellsAt S1.out.it 5
  have c6 := cellsAt S1.out.it 6
  have c7 := cellsAt S1.out.it 7
  have c8 := cellsAt S1.out.it 8
  have c9 := cellsAt S1.out.it 9
  have c10 := cellsAt S1.out.it 10
  simp [itC, itZ] at c0 c1 c2 c3 c4 c5 c6 c7 c8 c9 c10
  have fj := frozAt S1.out.it 0
  have z0 := cellsAt S1.out.res 0
  have f0 := frozAt S1.out.res 0
  have z1 := cellsAt S1.out.res 1
  have f1 := frozAt S1.out.res 1
  have z2 := cellsAt S1.out.res 2
  have f2 := frozAt S1.out.res 2
  have z3 := cellsAt S1.out.res 3
  have f3 := frozAt S1.out.res 3
  have z4 := cellsAt S1.out.res 4
  have f4 := frozAt S1.out.res 4
  have z5 := cellsAt S1.out.res 5
  have f5 := frozAt S1.out.res 5
  have z6 := cellsAt S1.out.res 6
  have f6 := frozAt S1.out.res 6
  have z7 := cellsAt S1.out.res 7
  have f7 := frozAt S1.out.res 7
  have z8 := cellsAt S1.out.res 8
  have f8 := frozAt S1.out.res 8
  have z9 := cellsAt S1.out.res 9
  have f9 := frozAt S1.out.res 9
  have z10 := cellsAt S1.out.res 10
  have f10 := frozAt S1.out.res 10
  simp [itC, itZ] at z0 z1 z2 z3 z4 z5 z6 z7 z8 z9 z10
  have q1 := cellsAt S1.out.rd 1
  have q2 := cellsAt S1.out.rd 2
  simp at q1 q2
  have HB := HR
  by_cases ha : a0 < (s.size : Int)
  · have Ha := Lib.hid ha
    go_wp2_with fail
    exact bodyPost_ret (v := .tuple #[.agg #[.int .i64 0, .string ⟨#[]⟩, .int .i64 0, .int .i64 0, .int .i64 0, .int .i64 0, .int .i64 0, .int .i64 0, .string ⟨#[]⟩, .int .i64 0, .int .i64 0], .int .i64 21]) (by simp [results, Tryz.results11, go_sem, z0, z1, z2, z3, z4, z5, z6, z7, z8, z9, z10]) rfl ⟨by rw [fin_a HB.out Ha.out]; rfl, by repeat' (first | (with_reducible assumption) | (with_reducible refine Below.drew ?_) | (with_reducible refine Below.setCell ?_ (by show w.heap.size ≤ _; simp; try omega) _))⟩
  have Ha := Lib.hid ha
  obtain ⟨q, hq⟩ : ∃ q, rightI { itZ with kind := 3 } = q := ⟨_, rfl⟩
  have HC : Hid (∀ W, Calls Tryz.prog 24 #[.agg #[.int .i64 3, .string ⟨#[]⟩, .int .i64 0, .int .i64 0, .int .i64 0, .int .i64 0, .int .i64 0, .int .i64 0, .string ⟨#[]⟩, .int .i64 0, .int .i64 0]] W fun e w' => e = .returned (.bool q) ∧ Below W.heap.size W w') := Lib.hid (fun W => right_any { itZ with kind := 3 } W q hq)
  have Hq := Lib.hid hq
  clear hq
  go_wp2_with fail
  refine (HC.out _).mono ?_
  rintro e w9 ⟨rfl, hb9⟩
  obtain ⟨k0, -, k2, kb⟩ := SF.out.kept hb9
  clear hb9 BB c0 c1 c2 c3 c4 c5 c6 c7 c8 c9 c10 z0 z1 z2 z3 z4 z5 z6 z7 z8 z9 z10 f0 f1 f2 f3 f4 f5 f6 f7 f8 f9 f10 fj q1 q2
  have c0 := cellsAt k2 0
  have z0 := cellsAt k0 0
  have f0 := frozAt k0 0
  have c1 := cellsAt k2 1
  have z1 := cellsAt k0 1
  have f1 := frozAt k0 1
  have c2 := cellsAt k2 2
  have z2 := cellsAt k0 2
  have f2 := frozAt k0 2
  have c3 := cellsAt k2 3
  have z3 := cellsAt k0 3
  have f3 := frozAt k0 3
  have c4 := cellsAt k2 4
  have z4 := cellsAt k0 4
  have f4 := frozAt k0 4
  have c5 := cellsAt k2 5
  have z5 := cellsAt k0 5
  have f5 := frozAt k0 5
  have c6 := cellsAt k2 6
  have z6 := cellsAt k0 6
  have f6 := frozAt k0 6
  have c7 := cellsAt k2 7
  have z7 := cellsAt k0 7
  have f7 := frozAt k0 7
  have c8 := cellsAt k2 8
  have z8 := cellsAt k0 8
  have f8 := frozAt k0 8
  have c9 := cellsAt k2 9
  have z9 := cellsAt k0 9
  have f9 := frozAt k0 9
  have c10 := cellsAt k2 10
  have z10 := cellsAt k0 10
  have f10 := frozAt k0 10
  simp [itC, itZ] at c0 c1 c2 c3 c4 c5 c6 c7 c8 c9 c10 z0 z1 z2 z3 z4 z5 z6 z7 z8 z9 z10
  clear k0 k2
  cases q with
  | false =>
    go_wp2_with fail
    exact bodyPost_ret (v := .tuple #[.agg #[.int .i64 0, .string ⟨#[]⟩, .int .i64 0, .int .i64 0, .int .i64 0, .int .i64 0, .int .i64 0, .int .i64 0, .string ⟨#[]⟩, .int .i64 0, .int .i64 0], .int .i64 1]) (by simp [results, Tryz.results11, go_sem, z0, z1, z2, z3, z4, z5, z6, z7, z8, z9, z10]) rfl ⟨by rw [fin_r HB.out (by have := Ha.out; omega) Hq.out]; rfl, by repeat' (first | (with_reducible assumption) | (with_reducible refine Below.drew ?_) | (with_reducible refine Below.setCell ?_ (by show w.heap.size ≤ _; simp; try omega) _))⟩
  | true =>
    go_wp2_with fail
    exact bodyPost_ret (v := .tuple #[.agg #[.int .i64 3, .string ⟨#[]⟩, .int .i64 0, .int .i64 0, .int .i64 0, .int .i64 0, .int .i64 0, .int .i64 0, .string ⟨#[]⟩, .int .i64 0, .int .i64 0], .int .i64 0]) (by simp [results, Tryz.results11, go_sem, z0, z1, z2, z3, z4, z5, z6, z7, z8, z9, z10]) rfl ⟨by rw [fin_i HB.out (by have := Ha.out; omega) Hq.out]; rfl, by repeat' (first | (with_reducible assumption) | (with_reducible refine Below.drew ?_) | (with_reducible refine Below.setCell ?_ (by show w.heap.size ≤ _; simp; try omega) _))⟩
set_option maxHeartbeats 2000000 in
set_option maxRecDepth 100000 in
theorem get_4 (s : ByteArray) (w : World) (hs : s.size ≤ 140737488355328) (a0 : Int) (h0 : numP s 0 0 = (4, a0, 0)) (n : Int) (a1 b1 : Int) (h1 : numP s a0 0 = (n, a1, b1)) (R : It × Int) (hR : fin s { itZ with kind := 4, n := n } a1 b1 = R) :
    Calls Tryz.prog 11 #[.string s] w fun e w' => e = .returned (.tuple #[itV R.1, .int .i64 R.2]) ∧ Below w.heap.size w w' := by
  have S0 := Lib.hid (St.start w s 101 0 0)
  have H0 := Lib.hid h0
  clear h0
  have H1 := Lib.hid h1
  clear h1
  have HR := Lib.hid hR
  clear hR
  have Hs := Lib.hid hs
  clear hs
  go_enter Tryz.func11, Tryz.ntmps11
  go_wp2_with fail
  refine (read_num _ s 0 0 _ _ _ _ S0.out.rd Hs.out H0.out).mono ?_
  rintro e w1 ⟨rfl, hw⟩
  have S1 := Lib.hid (S0.out.read hw)
  clear hw S0
  have q2 := cellsAt S1.out.rd 2
  have cj := cellsAt S1.out.it 0
  have fj := frozAt S1.out.it 0
  simp [itC, itZ] at q2 cj
  go_wp2_with fail
  refine (read_num _ s a0 0 _ _ _ _ (S1.out.put 0 (.int .i64 4) { itZ with kind := 4 } rfl).rd Hs.out H1.out).mono ?_
  rintro e w2 ⟨rfl, hw⟩
  have S2 := Lib.hid ((S1.out.put 0 (.int .i64 4) { itZ with kind := 4 } rfl).read hw)
  clear hw S1 q2 cj fj
  have SF := Lib.hid (S2.out.put 5 (.int .i64 n) { itZ with kind := 4, n := n } rfl)
  have BB : Below w.heap.size w w2 := S2.out.bel
  have c0 := cellsAt S2.out.it 0
  have c1 := cellsAt S2.out.it 1
  have c2 := cellsAt S2.out.it 2
  have c3 := cellsAt S2.out.it 3
  have c4 := cellsAt S2.out.it 4
  have c5 := cellsAt S2.out.it 5
  have c6 := cellsAt S2.out.it 6
  have c7 := cellsAt S2.out.it 7
  have c8 := cellsAt S2.out.it 8
  have c9 := cellsAt S2.out.it 9
  have c10 := cellsAt S2.out.it 10
  simp [itC, itZ] at c0 c1 c2 c3 c4 c5 c6 c7 c8 c9 c10
  have fj := frozAt S2.out.it 5
  have z0 := cellsAt S2.out.res 0
  have f0 := frozAt S2.out.res 0
  have z1 := cellsAt S2.out.res 1
  have f1 := frozAt S2.out.res 1
  have z2 := cellsAt S2.out.res 2
  have f2 := frozAt S2.out.res 2
  have z3 := cellsAt S2.out.res 3
  have f3 := frozAt S2.out.res 3
  have z4 := cellsAt S2.out.res 4
  have f4 := frozAt S2.out.res 4
  have z5 := cellsAt S2.out.res 5
  have f5 := frozAt S2.out.res 5
  have z6 := cellsAt S2.out.res 6
  have f6 := frozAt S2.out.res 6
  have z7 := cellsAt S2.out.res 7
  have f7 := frozAt S2.out.res 7
  have z8 := cellsAt S2.out.res 8
  have f8 := frozAt S2.out.res 8
  have z9 := cellsAt S2.out.res 9
  have f9 := frozAt S2.out.res 9
  have z10 := cellsAt S2.out.res 10
  have f10 := frozAt S2.out.res 10
  simp [itC, itZ] at z0 z1 z2 z3 z4 z5 z6 z7 z8 z9 z10
  have q1 := cellsAt S2.out.rd 1
  have q2 := cellsAt S2.out.rd 2
  simp at q1 q2
  by_cases hb : b1 ≠ 0
  · have hb2 : (b1 != 0) = true := by simpa using hb
    have Hb := Lib.hid hb
    clear hb
    go_wp2_with fail
    go_region
    go_wp2_with fail
    exact bodyPost_ret (v := .tuple #[.agg #[.int .i64 0, .string ⟨#[]⟩, .int .i64 0, .int .i64 0, .int .i64 0, .int .i64 0, .int .i64 0, .int .i64 0, .string ⟨#[]⟩, .int .i64 0, .int .i64 0], .int .i64 b1]) (by simp [results, Tryz.results11, go_sem, z0, z1, z2, z3, z4, z5, z6, z7, z8, z9, z10]) rfl ⟨by rw [fin_b HR.out Hb.out]; rfl, by repeat' (first | (with_reducible assumption) | (with_reducible refine Below.drew ?_) | (with_reducible refine Below.setCell ?_ (by show w.heap.size ≤ _; simp; try omega) _))⟩
  have hb := Decidable.not_not.1 hb
  have hB := HR.out
  rw [hb] at hB q2
  have HB := Lib.hid hB
  clear hB hb HR
  by_cases ha : a1 < (s.size : Int)
  · have Ha := Lib.hid ha
    go_wp2_with fail
    exact bodyPost_ret (v := .tuple #[.agg #[.int .i64 0, .string ⟨#[]⟩, .int .i64 0, .int .i64 0, .int .i64 0, .int .i64 0, .int .i64 0, .int .i64 0, .string ⟨#[]⟩, .int .i64 0, .int .i64 0], .int .i64 21]) (by simp [results, Tryz.results11, go_sem, z0, z1, z2, z3, z4, z5, z6, z7, z8, z9, z10]) rfl ⟨by rw [fin_a HB.out Ha.out]; rfl, by repeat' (first | (with_reducible assumption) | (with_reducible refine Below.drew ?_) | (with_reducible refine Below.setCell ?_ (by show w.heap.size ≤ _; simp; try omega) _))⟩
  have Ha := Lib.hid ha
  obtain ⟨q, hq⟩ : ∃ q, rightI { itZ with kind := 4, n := n } = q := ⟨_, rfl⟩
  have HC : Hid (∀ W, Calls Tryz.prog 24 #[.agg #[.int .i64 4, .string ⟨#[]⟩, .int .i64 0, .int .i64 0, .int .i64 0, .int .i64 n, .int .i64 0, .int .i64 0, .string ⟨#[]⟩, .int .i64 0, .int .i64 0]] W fun e w' => e = .returned (.bool q) ∧ Below W.heap.size W w') := Lib.hid (fun W => right_any { itZ with kind := 4, n := n } W q hq)
  have Hq := Lib.hid hq
  clear hq
  go_wp2_with fail
  refine (HC.out _).mono ?_
  rintro e w9 ⟨rfl, hb9⟩
  obtain ⟨k0, -, k2, kb⟩ := SF.out.kept hb9
  clear hb9 BB c0 c1 c2 c3 c4 c5 c6 c7 c8 c9 c10 z0 z1 z2 z3 z4 z5 z6 z7 z8 z9 z10 f0 f1 f2 f3 f4 f5 f6 f7 f8 f9 f10 fj q1 q2
  have c0 := cellsAt k2 0
  have z0 := cellsAt k0 0
  have f0 := frozAt k0 0
  have c1 := cellsAt k2 1
  have z1 := cellsAt k0 1
  have f1 := frozAt k0 1
  have c2 := cellsAt k2 2
  have z2 := cellsAt k0 2
  have f2 := frozAt k0 2
  have c3 := cellsAt k2 3
  have z3 := cellsAt k0 3
  have f3 := frozAt k0 3
  have c4 := cellsAt k2 4
  have z4 := cellsAt k0 4
  have f4 := frozAt k0 4
  have c5 := cellsAt k2 5
  have z5 := cellsAt k0 5
  have f5 := frozAt k0 5
  have c6 := cellsAt k2 6
  have z6 := cellsAt k0 6
  have f6 := frozAt k0 6
  have c7 := cellsAt k2 7
  have z7 := cellsAt k0 7
  have f7 := frozAt k0 7
  have c8 := cellsAt k2 8
  have z8 := cellsAt k0 8
  have f8 := frozAt k0 8
  have c9 := cellsAt k2 9
  have z9 := cellsAt k0 9
  have f9 := frozAt k0 9
  have c10 := cellsAt k2 10
  have z10 := cellsAt k0 10
  have f10 := frozAt k0 10
  simp [itC, itZ] at c0 c1 c2 c3 c4 c5 c6 c7 c8 c9 c10 z0 z1 z2 z3 z4 z5 z6 z7 z8 z9 z10
  clear k0 k2
  cases q with
  | false =>
    go_wp2_with fail
    exact bodyPost_ret (v := .tuple #[.agg #[.int .i64 0, .string ⟨#[]⟩, .int .i64 0, .int .i64 0, .int .i64 0, .int .i64 0, .int .i64 0, .int .i64 0, .string ⟨#[]⟩, .int .i64 0, .int .i64 0], .int .i64 1]) (by simp [results, Tryz.results11, go_sem, z0, z1, z2, z3, z4, z5, z6, z7, z8, z9, z10]) rfl ⟨by rw [fin_r HB.out (by have := Ha.out; omega) Hq.out]; rfl, by repeat' (first | (with_reducible assumption) | (with_reducible refine Below.drew ?_) | (with_reducible refine Below.setCell ?_ (by show w.heap.size ≤ _; simp; try omega) _))⟩
  | true =>
    go_wp2_with fail
    exact bodyPost_ret (v := .tuple #[.agg #[.int .i64 4, .string ⟨#[]⟩, .int .i64 0, .int .i64 0, .int .i64 0, .int .i64 n, .int .i64 0, .int .i64 0, .string ⟨#[]⟩, .int .i64 0, .int .i64 0], .int .i64 0]) (by simp [results, Tryz.results11, go_sem, z0, z1, z2, z3, z4, z5, z6, z7, z8, z9, z10]) rfl ⟨by rw [fin_i HB.out (by have := Ha.out; omega) Hq.out]; rfl, by repeat' (first | (with_reducible assumption) | (with_reducible refine Below.drew ?_) | (with_reducible refine Below.setCell ?_ (by show w.heap.size ≤ _; simp; try omega) _))⟩
set_option maxHeartbeats 2000000 in
set_option maxRecDepth 100000 in
theorem get_5 (s : ByteArray) (w : World) (hs : s.size ≤ 140737488355328) (a0 : Int) (h0 : numP s 0 0 = (5, a0, 0)) (rk : ByteArray) (a1 b1 : Int) (h1 : txtP s a0 0 = (rk, a1, b1)) (lo : Int) (a2 b2 : Int) (h2 : numP s a1 b1 = (lo, a2, b2)) (hi : Int) (a3 b3 : Int) (h3 : numP s a2 b2 = (hi, a3, b3)) (rn : Int) (a4 b4 : Int) (h4 : numP s a3 b3 = (rn, a4, b4)) (rv : Int) (a5 b5 : Int) (h5 : sgnP s a4 b4 = (rv, a5, b5)) (R : It × Int) (hR : fin s { itZ with kind := 5, rk := rk, lo := lo, hi := hi, rn := rn, rv := rv } a5 b5 = R) :
    Calls Tryz.prog 11 #[.string s] w fun e w' => e = .returned (.tuple #[itV R.1, .int .i64 R.2]) ∧ Below w.heap.size w w' := by
  have S0 := Lib.hid (St.start w s 101 0 0)
  have H0 := Lib.hid h0
  clear h0
  have H1 := Lib.hid h1
  clear h1
  have H2 := Lib.hid h2
  clear h2
  have H3 := Lib.hid h3
  clear h3
  have H4 := Lib.hid h4
  clear h4
  have H5 := Lib.hid h5
  clear h5
  have HR := Lib.hid hR
  clear hR
  have Hs := Lib.hid hs
  clear hs
  go_enter Tryz.func11, Tryz.ntmps11
  go_wp2_with fail
  refine (read_num _ s 0 0 _ _ _ _ S0.out.rd Hs.out H0.out).mono ?_
  rintro e w1 ⟨rfl, hw⟩
  have S1 := Lib.hid (S0.out.read hw)
  clear hw S0
  have q2 := cellsAt S1.out.rd 2
  have cj := cellsAt S1.out.it 0
  have fj := frozAt S1.out.it 0
  simp [itC, itZ] at q2 cj
  go_wp2_with fail
  refine (read_txt _ s a0 0 _ _ _ _ (S1.out.put 0 (.int .i64 5) { itZ with kind := 5 } rfl).rd Hs.out H1.out).mono ?_
  rintro e w2 ⟨rfl, hw⟩
  have S2 := Lib.hid ((S1.out.put 0 (.int .i64 5) { itZ with kind := 5 } rfl).read hw)
  clear hw S1 q2 cj fj
  have q2 := cellsAt S2.out.rd 2
  have cj := cellsAt S2.out.it 8
  have fj := frozAt S2.out.it 8
  simp [itC, itZ] at q2 cj
  go_wp2_with fail
  refine (read_num _ s a1 b1 _ _ _ _ (S2.out.put 8 (.string rk) { itZ with kind := 5, rk := rk } rfl).rd Hs.out H2.out).mono ?_
  rintro e w3 ⟨rfl, hw⟩
  have S3 := Lib.hid ((S2.out.put 8 (.string rk) { itZ with kind := 5, rk := rk } rfl).read hw)
  clear hw S2 q2 cj fj
  have q2 := cellsAt S3.out.rd 2
  have cj := cellsAt S3.out.it 6
  have fj := frozAt S3.out.it 6
  simp [itC, itZ] at q2 cj
  go_wp2_with fail
  refine (read_num _ s a2 b2 _ _ _ _ (S3.out.put 6 (.int .i64 lo) { itZ with kind := 5, rk := rk, lo := lo } rfl).rd Hs.out H3.out).mono ?_
  rintro e w4 ⟨rfl, hw⟩
  have S4 := Lib.hid ((S3.out.put 6 (.int .i64 lo) { itZ with kind := 5, rk := rk, lo := lo } rfl).read hw)
  clear hw S3 q2 cj fj
  have q2 := cellsAt S4.out.rd 2
  have cj := cellsAt S4.out.it 7
  have fj := frozAt S4.out.it 7
  simp [itC, itZ] at q2 cj
  go_wp2_with fail
  refine (read_num _ s a3 b3 _ _ _ _ (S4.out.put 7 (.int .i64 hi) { itZ with kind := 5, rk := rk, lo := lo, hi := hi } rfl).rd Hs.out H4.out).mono ?_
  rintro e w5 ⟨rfl, hw⟩
  have S5 := Lib.hid ((S4.out.put 7 (.int .i64 hi) { itZ with kind := 5, rk := rk, lo := lo, hi := hi } rfl).read hw)
  clear hw S4 q2 cj fj
  have q2 := cellsAt S5.out.rd 2
  have cj := cellsAt S5.out.it 9
  have fj := frozAt S5.out.it 9
  simp [itC, itZ] at q2 cj
  go_wp2_with fail
  refine (read_sgn _ s a4 b4 _ _ _ _ (S5.out.put 9 (.int .i64 rn) { itZ with kind := 5, rk := rk, lo := lo, hi := hi, rn := rn } rfl).rd Hs.out H5.out).mono ?_
  rintro e w6 ⟨rfl, hw⟩
  have S6 := Lib.hid ((S5.out.put 9 (.int .i64 rn) { itZ with kind := 5, rk := rk, lo := lo, hi := hi, rn := rn } rfl).read hw)
  clear hw S5 q2 cj fj
  have SF := Lib.hid (S6.out.put 10 (.int .i64 rv) { itZ with kind := 5, rk := rk, lo := lo, hi := hi, rn := rn, rv := rv } rfl)
  have BB : Below w.heap.size w w6 := S6.out.bel
  have c0 := cellsAt S6.out.it 0
  have c1 := cellsAt S6.out.it 1
  have c2 := cellsAt S6.out.it 2
  have c3 := cellsAt S6.out.it 3
  have c4 := cellsAt S6.out.it 4
  have c5 := cellsAt S6.out.it 5
  have c6 := cellsAt S6.out.it 6
  have c7 := cellsAt S6.out.it 7
  have c8 := cellsAt S6.out.it 8
  have c9 := cellsAt S6.out.it 9
  have c10 := cellsAt S6.out.it 10
  simp [itC, itZ] at c0 c1 c2 c3 c4 c5 c6 c7 c8 c9 c10
  have fj := frozAt S6.out.it 10
  have z0 := cellsAt S6.out.res 0
  have f0 := frozAt S6.out.res 0
  have z1 := cellsAt S6.out.res 1
  have f1 := frozAt S6.out.res 1
  have z2 := cellsAt S6.out.res 2
  have f2 := frozAt S6.out.res 2
  have z3 := cellsAt S6.out.res 3
  have f3 := frozAt S6.out.res 3
  have z4 := cellsAt S6.out.res 4
  have f4 := frozAt S6.out.res 4
  have z5 := cellsAt S6.out.res 5
  have f5 := frozAt S6.out.res 5
  have z6 := cellsAt S6.out.res 6
  have f6 := frozAt S6.out.res 6
  have z7 := cellsAt S6.out.res 7
  have f7 := frozAt S6.out.res 7
  have z8 := cellsAt S6.out.res 8
  have f8 := frozAt S6.out.res 8
  have z9 := cellsAt S6.out.res 9
  have f9 := frozAt S6.out.res 9
  have z10 := cellsAt S6.out.res 10
  have f10 := frozAt S6.out.res 10
  simp [itC, itZ] at z0 z1 z2 z3 z4 z5 z6 z7 z8 z9 z10
  have q1 := cellsAt S6.out.rd 1
  have q2 := cellsAt S6.out.rd 2
  simp at q1 q2
  by_cases hb : b5 ≠ 0
  · have hb2 : (b5 != 0) = true := by simpa using hb
    have Hb := Lib.hid hb
    clear hb
    go_wp2_with fail
    go_region
    go_wp2_with fail
    exact bodyPost_ret (v := .tuple #[.agg #[.int .i64 0, .string ⟨#[]⟩, .int .i64 0, .int .i64 0, .int .i64 0, .int .i64 0, .int .i64 0, .int .i64 0, .string ⟨#[]⟩, .int .i64 0, .int .i64 0], .int .i64 b5]) (by simp [results, Tryz.results11, go_sem, z0, z1, z2, z3, z4, z5, z6, z7, z8, z9, z10]) rfl ⟨by rw [fin_b HR.out Hb.out]; rfl, by repeat' (first | (with_reducible assumption) | (with_reducible refine Below.drew ?_) | (with_reducible refine Below.setCell ?_ (by show w.heap.size ≤ _; simp; try omega) _))⟩
  have hb := Decidable.not_not.1 hb
  have hB := HR.out
  rw [hb] at hB q2
  have HB := Lib.hid hB
  clear hB hb HR
  by_cases ha : a5 < (s.size : Int)
  · have Ha := Lib.hid ha
    go_wp2_with fail
    exact bodyPost_ret (v := .tuple #[.agg #[.int .i64 0, .string ⟨#[]⟩, .int .i64 0, .int .i64 0, .int .i64 0, .int .i64 0, .int .i64 0, .int .i64 0, .string ⟨#[]⟩, .int .i64 0, .int .i64 0], .int .i64 21]) (by simp [results, Tryz.results11, go_sem, z0, z1, z2, z3, z4, z5, z6, z7, z8, z9, z10]) rfl ⟨by rw [fin_a HB.out Ha.out]; rfl, by repeat' (first | (with_reducible assumption) | (with_reducible refine Below.drew ?_) | (with_reducible refine Below.setCell ?_ (by show w.heap.size ≤ _; simp; try omega) _))⟩
  have Ha := Lib.hid ha
  obtain ⟨q, hq⟩ : ∃ q, rightI { itZ with kind := 5, rk := rk, lo := lo, hi := hi, rn := rn, rv := rv } = q := ⟨_, rfl⟩
  have HC : Hid (∀ W, Calls Tryz.prog 24 #[.agg #[.int .i64 5, .string ⟨#[]⟩, .int .i64 0, .int .i64 0, .int .i64 0, .int .i64 0, .int .i64 lo, .int .i64 hi, .string rk, .int .i64 rn, .int .i64 rv]] W fun e w' => e = .returned (.bool q) ∧ Below W.heap.size W w') := Lib.hid (fun W => right_any { itZ with kind := 5, rk := rk, lo := lo, hi := hi, rn := rn, rv := rv } W q hq)
  have Hq := Lib.hid hq
  clear hq
  go_wp2_with fail
  refine (HC.out _).mono ?_
  rintro e w9 ⟨rfl, hb9⟩
  obtain ⟨k0, -, k2, kb⟩ := SF.out.kept hb9
  clear hb9 BB c0 c1 c2 c3 c4 c5 c6 c7 c8 c9 c10 z0 z1 z2 z3 z4 z5 z6 z7 z8 z9 z10 f0 f1 f2 f3 f4 f5 f6 f7 f8 f9 f10 fj q1 q2
  have c0 := cellsAt k2 0
  have z0 := cellsAt k0 0
  have f0 := frozAt k0 0
  have c1 := cellsAt k2 1
  have z1 := cellsAt k0 1
  have f1 := frozAt k0 1
  have c2 := cellsAt k2 2
  have z2 := cellsAt k0 2
  have f2 := frozAt k0 2
  have c3 := cellsAt k2 3
  have z3 := cellsAt k0 3
  have f3 := frozAt k0 3
  have c4 := cellsAt k2 4
  have z4 := cellsAt k0 4
  have f4 := frozAt k0 4
  have c5 := cellsAt k2 5
  have z5 := cellsAt k0 5
  have f5 := frozAt k0 5
  have c6 := cellsAt k2 6
  have z6 := cellsAt k0 6
  have f6 := frozAt k0 6
  have c7 := cellsAt k2 7
  have z7 := cellsAt k0 7
  have f7 := frozAt k0 7
  have c8 := cellsAt k2 8
  have z8 := cellsAt k0 8
  have f8 := frozAt k0 8
  have c9 := cellsAt k2 9
  have z9 := cellsAt k0 9
  have f9 := frozAt k0 9
  have c10 := cellsAt k2 10
  have z10 := cellsAt k0 10
  have f10 := frozAt k0 10
  simp [itC, itZ] at c0 c1 c2 c3 c4 c5 c6 c7 c8 c9 c10 z0 z1 z2 z3 z4 z5 z6 z7 z8 z9 z10
  clear k0 k2
  cases q with
  | false =>
    go_wp2_with fail
    exact bodyPost_ret (v := .tuple #[.agg #[.int .i64 0, .string ⟨#[]⟩, .int .i64 0, .int .i64 0, .int .i64 0, .int .i64 0, .int .i64 0, .int .i64 0, .string ⟨#[]⟩, .int .i64 0, .int .i64 0], .int .i64 1]) (by simp [results, Tryz.results11, go_sem, z0, z1, z2, z3, z4, z5, z6, z7, z8, z9, z10]) rfl ⟨by rw [fin_r HB.out (by have := Ha.out; omega) Hq.out]; rfl, by repeat' (first | (with_reducible assumption) | (with_reducible refine Below.drew ?_) | (with_reducible refine Below.setCell ?_ (by show w.heap.size ≤ _; simp; try omega) _))⟩
  | true =>
    go_wp2_with fail
    exact bodyPost_ret (v := .tuple #[.agg #[.int .i64 5, .string ⟨#[]⟩, .int .i64 0, .int .i64 0, .int .i64 0, .int .i64 0, .int .i64 lo, .int .i64 hi, .string rk, .int .i64 rn, .int .i64 rv], .int .i64 0]) (by simp [results, Tryz.results11, go_sem, z0, z1, z2, z3, z4, z5, z6, z7, z8, z9, z10]) rfl ⟨by rw [fin_i HB.out (by have := Ha.out; omega) Hq.out]; rfl, by repeat' (first | (with_reducible assumption) | (with_reducible refine Below.drew ?_) | (with_reducible refine Below.setCell ?_ (by show w.heap.size ≤ _; simp; try omega) _))⟩
structure Sp (w : World) (g : Nat) (W : World) (T : TypeId) (s : ByteArray) (a b : Int) : Prop where
  g0 : g = w.heap.size
  res : W.heap[g]? = some (.cells (itC itZ) 43 (0, 0))
  rd : W.heap[g + 1]? = some (.cells #[.string s, .int .i64 a, .int .i64 b] T (0, 0))
  size : W.heap.size = g + 1 + 1
  bel : Below w.heap.size w W
theorem Sp.read {w W W' : World} {g : Nat} {T : TypeId} {s : ByteArray} {a b a' b' : Int} (h : Sp w g W T s a b) (hw : ReadTo (g + 1) T s a' b' W W') : Sp w g W' T s a' b' :=
  ⟨h.g0, (hw.2.1 _ (by omega)).trans h.res, hw.1, hw.2.2.2.2.2.trans h.size, hw.below h.bel (by have := h.g0; omega)⟩
theorem Sp.bad {w W : World} {g : Nat} {T : TypeId} {s : ByteArray} {a b : Int} (h : Sp w g W T s a b) (b' : Int) : Sp w g (W.setCell ⟨g + 1, 2, none⟩ (.int .i64 b')) T s a b' := by
  refine ⟨h.g0, (Below.heap_setCell W ⟨g + 1, 2, none⟩ _ _ (by show g ≠ g + 1; omega)).trans h.res, ?_, ?_, h.bel.setCell (by have := h.g0; show w.heap.size ≤ g + 1; omega) _⟩
  · have := h.rd
    simp [World.setCell, Array.getElem?_modify, this]
  · simpa [World.setCell] using h.size
theorem Sp.item {w W : World} {g : Nat} {T : TypeId} {s : ByteArray} {a b : Int} (h : Sp w g W T s a b) (i : It) : St w g (W.alloc (.cells (itC i) 43)) T s a b i := by
  have e := h.size
  refine ⟨h.g0, (Below.heap_alloc _ _ _ (by omega)).trans h.res, (Below.heap_alloc _ _ _ (by omega)).trans h.rd, ?_, by simp; omega, bel_alloc h.bel _⟩
  rw [← e]
  exact heap_alloc_new _ _
theorem Sp.start (w : World) (s : ByteArray) (T : TypeId) (k0 : Int) : Sp w w.heap.size ((w.alloc (.cells (itC itZ) 43)).alloc (.cells #[.string s, .int .i64 0, .int .i64 k0] T)) T s 0 k0 := by
  obtain ⟨A, hA⟩ : ∃ A : Obj, A = .cells (itC itZ) 43 := ⟨_, rfl⟩
  obtain ⟨B, hB⟩ : ∃ B : Obj, B = .cells #[.string s, .int .i64 0, .int .i64 k0] T := ⟨_, rfl⟩
  rw [← hA, ← hB]
  have e1 : (w.alloc A).heap.size = w.heap.size + 1 := by simp
  have e2 : ((w.alloc A).alloc B).heap.size = w.heap.size + 1 + 1 := by simp
  refine ⟨rfl, ?_, ?_, e2, bel_alloc (bel_alloc (Below.refl _ _) _) _⟩
  · rw [← hA]
    exact (Below.heap_alloc _ B _ (by omega)).trans (heap_alloc_new w A)
  · rw [← hB, ← e1]
    exact heap_alloc_new _ B
theorem rnum_of {s : ByteArray} {a a2 b v a' b' : Int} (h : numP s a b = (v, a', b')) (ha : b = 0 → a2 = a) : ∃ x, rnumP s a2 b = (v, x, b') ∧ (b' = 0 → x = a') := by
  unfold numP at h
  unfold rnumP
  by_cases hb : b = 0
  · subst hb
    rw [ha rfl, if_neg (by simp)]
    rw [if_neg (by simp)] at h
    obtain ⟨⟨n, tt, er⟩, hr⟩ : ∃ r, getR s.data.toList a = r := ⟨_, rfl⟩
    have hf := rdAt_facts hr (by decide)
    rw [hr] at h ⊢
    simp only at h ⊢
    by_cases he : er = 0
    · rw [if_pos he] at h
      simp only [Prod.mk.injEq] at h
      obtain ⟨rfl, rfl, rfl⟩ := h
      exact ⟨tt, by rw [he], fun _ => rfl⟩
    · rw [if_neg he] at h
      simp only [Prod.mk.injEq] at h
      obtain ⟨rfl, rfl, rfl⟩ := h
      exact ⟨tt, by rw [show n = 0 by omega]; rfl, fun h => absurd h he⟩
  · rw [if_pos hb] at h ⊢
    simp only [Prod.mk.injEq] at h
    obtain ⟨rfl, rfl, rfl⟩ := h
    exact ⟨a2, rfl, ha⟩
theorem rsgn_of {s : ByteArray} {a a2 b v a' b' : Int} (h : sgnP s a b = (v, a', b')) (ha : b = 0 → a2 = a) : ∃ x, rsgnP s a2 b = (v, x, b') ∧ (b' = 0 → x = a') := by
  unfold sgnP at h
  unfold rsgnP
  by_cases hb : b = 0
  · subst hb
    rw [ha rfl, if_neg (by simp)]
    rw [if_neg (by simp)] at h
    obtain ⟨⟨n, tt, er⟩, hr⟩ : ∃ r, gsR s.data.toList a = r := ⟨_, rfl⟩
    have hf := rdAt_facts hr (by decide)
    rw [hr] at h ⊢
    simp only at h ⊢
    by_cases he : er = 0
    · rw [if_pos he] at h
      simp only [Prod.mk.injEq] at h
      obtain ⟨rfl, rfl, rfl⟩ := h
      exact ⟨tt, by rw [he], fun _ => rfl⟩
    · rw [if_neg he] at h
      simp only [Prod.mk.injEq] at h
      obtain ⟨rfl, rfl, rfl⟩ := h
      exact ⟨tt, by rw [show n = 0 by omega]; rfl, fun h => absurd h he⟩
  · rw [if_pos hb] at h ⊢
    simp only [Prod.mk.injEq] at h
    obtain ⟨rfl, rfl, rfl⟩ := h
    exact ⟨a2, rfl, ha⟩
theorem rtxt_of {s : ByteArray} {a a2 b : Int} {v : ByteArray} {a' b' : Int} (h : txtP s a b = (v, a', b')) (ha : b = 0 → a2 = a) : ∃ x, rtxtP s a2 b = (v, x, b') ∧ (b' = 0 → x = a') := by
  unfold txtP at h
  unfold rtxtP
  by_cases hb : b = 0
  · subst hb
    rw [ha rfl, if_neg (by simp)]
    rw [if_neg (by simp)] at h
    obtain ⟨⟨y, tt, er⟩, hr⟩ : ∃ r, gtR s a = r := ⟨_, rfl⟩
    rw [hr] at h ⊢
    simp only at h ⊢
    by_cases he : er = 0
    · rw [if_pos he] at h
      simp only [Prod.mk.injEq] at h
      obtain ⟨rfl, rfl, rfl⟩ := h
      exact ⟨tt, by rw [he], fun _ => rfl⟩
    · rw [if_neg he] at h
      simp only [Prod.mk.injEq] at h
      obtain ⟨rfl, rfl, rfl⟩ := h
      obtain ⟨rfl, -⟩ := gtR_err hr he
      exact ⟨tt, rfl, fun h => absurd h he⟩
  · rw [if_pos hb] at h ⊢
    simp only [Prod.mk.injEq] at h
    obtain ⟨rfl, rfl, rfl⟩ := h
    exact ⟨a2, rfl, ha⟩
set_option maxHeartbeats 1000000 in
set_option maxRecDepth 100000 in
theorem get_6 (s : ByteArray) (w : World) (hs : s.size ≤ 140737488355328) (k a0 : Int) (h0 : numP s 0 0 = (k, a0, 0)) (hk : k < 1 ∨ 5 < k) :
    Calls Tryz.prog 11 #[.string s] w fun e w' => e = .returned (.tuple #[itV itZ, .int .i64 40]) ∧ Below w.heap.size w w' := by
  have S0 := Lib.hid (St.start w s 101 0 0)
  have H0 := Lib.hid h0
  clear h0
  have Hs := Lib.hid hs
  clear hs
  have Hkk := Lib.hid hk
  clear hk
  go_enter Tryz.func11, Tryz.ntmps11
  go_wp2_with fail
  refine (read_num _ s 0 0 _ _ _ _ S0.out.rd Hs.out H0.out).mono ?_
  rintro e w1 ⟨rfl, hw⟩
  have S1 := Lib.hid (S0.out.read hw)
  clear hw S0
  have BB : Below w.heap.size w w1 := S1.out.bel
  have z0 := cellsAt S1.out.res 0
  have z1 := cellsAt S1.out.res 1
  have z2 := cellsAt S1.out.res 2
  have z3 := cellsAt S1.out.res 3
  have z4 := cellsAt S1.out.res 4
  have z5 := cellsAt S1.out.res 5
  have z6 := cellsAt S1.out.res 6
  have z7 := cellsAt S1.out.res 7
  have z8 := cellsAt S1.out.res 8
  have z9 := cellsAt S1.out.res 9
  have z10 := cellsAt S1.out.res 10
  have f0 := frozAt S1.out.res 0
  have f1 := frozAt S1.out.res 1
  have f2 := frozAt S1.out.res 2
  have f3 := frozAt S1.out.res 3
  have f4 := frozAt S1.out.res 4
  have f5 := frozAt S1.out.res 5
  have f6 := frozAt S1.out.res 6
  have f7 := frozAt S1.out.res 7
  have f8 := frozAt S1.out.res 8
  have f9 := frozAt S1.out.res 9
  have f10 := frozAt S1.out.res 10
  simp [itC, itZ] at z0 z1 z2 z3 z4 z5 z6 z7 z8 z9 z10
  have q2 := cellsAt S1.out.rd 2
  simp at q2
  by_cases h1 : k < 1
  · go_wp2_with fail
    exact bodyPost_ret (v := .tuple #[.agg #[.int .i64 0, .string ⟨#[]⟩, .int .i64 0, .int .i64 0, .int .i64 0, .int .i64 0, .int .i64 0, .int .i64 0, .string ⟨#[]⟩, .int .i64 0, .int .i64 0], .int .i64 40]) (by simp [results, Tryz.results11, go_sem, z0, z1, z2, z3, z4, z5, z6, z7, z8, z9, z10]) rfl ⟨rfl, by repeat' (first | (with_reducible assumption) | (with_reducible refine Below.drew ?_) | (with_reducible refine Below.setCell ?_ (by show w.heap.size ≤ _; simp; try omega) _))⟩
  · have d2 : 5 < k := by have := Hkk.out; omega
    go_wp2_with fail
    exact bodyPost_ret (v := .tuple #[.agg #[.int .i64 0, .string ⟨#[]⟩, .int .i64 0, .int .i64 0, .int .i64 0, .int .i64 0, .int .i64 0, .int .i64 0, .string ⟨#[]⟩, .int .i64 0, .int .i64 0], .int .i64 40]) (by simp [results, Tryz.results11, go_sem, z0, z1, z2, z3, z4, z5, z6, z7, z8, z9, z10]) rfl ⟨rfl, by repeat' (first | (with_reducible assumption) | (with_reducible refine Below.drew ?_) | (with_reducible refine Below.setCell ?_ (by show w.heap.size ≤ _; simp; try omega) _))⟩
theorem getI_any (s : ByteArray) (w : World) (hs : s.size ≤ 140737488355328) (i : It) (e0 : Int) (h : getP s = (i, e0)) :
    Calls Tryz.prog 11 #[.string s] w fun e w' => e = .returned (.tuple #[itV i, .int .i64 e0]) ∧ Below w.heap.size w w' := by
  obtain ⟨⟨k, a, b⟩, h0⟩ : ∃ r, numP s 0 0 = r := ⟨_, rfl⟩
  by_cases hb : b = 0
  · subst hb
    by_cases hk : k < 1 ∨ 5 < k
    · rw [getP_6 h0 hk] at h; simp only [Prod.mk.injEq] at h; obtain ⟨rfl, rfl⟩ := h; exact get_6 s w hs k a h0 hk
    · have hk' : k = 1 ∨ k = 2 ∨ k = 3 ∨ k = 4 ∨ k = 5 := by omega
      rcases hk' with rfl | rfl | rfl | rfl | rfl
      · obtain ⟨⟨v1, a1, b1⟩, h1⟩ : ∃ r, txtP s a 0 = r := ⟨_, rfl⟩
        obtain ⟨⟨v2, a2, b2⟩, h2⟩ : ∃ r, numP s a1 b1 = r := ⟨_, rfl⟩
        obtain ⟨⟨v3, a3, b3⟩, h3⟩ : ∃ r, sgnP s a2 b2 = r := ⟨_, rfl⟩
        rw [getP_1 h0 h1 h2 h3] at h
        exact get_1 s w hs a h0 v1 a1 b1 h1 v2 a2 b2 h2 v3 a3 b3 h3 _ h
      · obtain ⟨⟨v1, a1, b1⟩, h1⟩ : ∃ r, numP s a 0 = r := ⟨_, rfl⟩
        rw [getP_2 h0 h1] at h
        exact get_2 s w hs a h0 v1 a1 b1 h1 _ h
      · rw [getP_3 h0] at h
        exact get_3 s w hs a h0 _ h
      · obtain ⟨⟨v1, a1, b1⟩, h1⟩ : ∃ r, numP s a 0 = r := ⟨_, rfl⟩
        rw [getP_4 h0 h1] at h
        exact get_4 s w hs a h0 v1 a1 b1 h1 _ h
      · obtain ⟨⟨v1, a1, b1⟩, h1⟩ : ∃ r, txtP s a 0 = r := ⟨_, rfl⟩
        obtain ⟨⟨v2, a2, b2⟩, h2⟩ : ∃ r, numP s a1 b1 = r := ⟨_, rfl⟩
        obtain ⟨⟨v3, a3, b3⟩, h3⟩ : ∃ r, numP s a2 b2 = r := ⟨_, rfl⟩
        obtain ⟨⟨v4, a4, b4⟩, h4⟩ : ∃ r, numP s a3 b3 = r := ⟨_, rfl⟩
        obtain ⟨⟨v5, a5, b5⟩, h5⟩ : ∃ r, sgnP s a4 b4 = r := ⟨_, rfl⟩
        rw [getP_5 h0 h1 h2 h3 h4 h5] at h
        exact get_5 s w hs a h0 v1 a1 b1 h1 v2 a2 b2 h2 v3 a3 b3 h3 v4 a4 b4 h4 v5 a5 b5 h5 _ h
  · obtain rfl := numP_zero h0 hb
    exact get_0 s w hs a b h0 hb (i, e0) (by rw [← h, getP_0 h0 hb]; unfold fin; rw [if_pos hb])
theorem sameI_refl (i : It) : sameI i i = true := by simp [sameI]
theorem bytesI_size (i : It) (wf : i.Wf) (hR : rightI i = true) : 1 ≤ (bytesI i).size ∧ (bytesI i).size ≤ 100 := by
  have hk := right_kind hR
  have hB := right_bare hR
  obtain ⟨kind, ek, ea, ev, ma, n, lo, hi, rk, rn, rv⟩ := i
  obtain ⟨-, -, -, we, -, -, -, -, -, -, wr⟩ := wf
  simp only at hk we wr
  unfold wfL at we wr
  rcases hk with rfl | rfl | rfl | rfl | rfl
  · obtain ⟨e1, e2, e3⟩ := ev_facts (show evB ek ea = true from hB)
    have z0 := d10i (a := 1) (by decide)
    have z1 := dig10 (n := ek.size) (by omega)
    have z2 := d10i e3
    have z3 := dig10 (zz_lt we.1 we.2)
    have p := dig_pos (1 : Int).toNat
    rw [show bytesI ⟨1, ek, ea, ev, ma, n, lo, hi, rk, rn, rv⟩ = digS (1 : Int).toNat ++ (digS ek.size ++ ek) ++ digS ea.toNat ++ digS (zz ev) from rfl]
    simp only [ByteArray.size_append]; omega
  · have hB' : (decide (0 ≤ ma) && decide (ma ≤ 1099511627776)) = true := hB
    simp at hB'
    have z0 := d10i (a := 2) (by decide)
    have z2 := d10i hB'.2
    have p := dig_pos (2 : Int).toNat
    rw [show bytesI ⟨2, ek, ea, ev, ma, n, lo, hi, rk, rn, rv⟩ = digS (2 : Int).toNat ++ digS ma.toNat from rfl]
    simp only [ByteArray.size_append]; omega
  · have z0 := d10i (a := 3) (by decide)
    have p := dig_pos (3 : Int).toNat
    rw [show bytesI ⟨3, ek, ea, ev, ma, n, lo, hi, rk, rn, rv⟩ = digS (3 : Int).toNat from rfl]
    omega
  · have hB' : (decide (1 ≤ n) && decide (n ≤ 1073741824)) = true := hB
    simp at hB'
    have z0 := d10i (a := 4) (by decide)
    have z2 := d10i (a := n) (by omega)
    have p := dig_pos (4 : Int).toNat
    rw [show bytesI ⟨4, ek, ea, ev, ma, n, lo, hi, rk, rn, rv⟩ = digS (4 : Int).toNat ++ digS n.toNat from rfl]
    simp only [ByteArray.size_append]; omega
  · obtain ⟨e1, l0, l1, i0, i1, n0, n1⟩ := res_facts (show resB lo hi rk rn = true from hB)
    have z0 := d10i (a := 5) (by decide)
    have z1 := dig10 (n := rk.size) (by omega)
    have z2 := d10i l1
    have z3 := d10i i1
    have z4 := d10i n1
    have z5 := dig10 (zz_lt wr.1 wr.2)
    have p := dig_pos (5 : Int).toNat
    rw [show bytesI ⟨5, ek, ea, ev, ma, n, lo, hi, rk, rn, rv⟩ = digS (5 : Int).toNat ++ (digS rk.size ++ rk) ++ digS lo.toNat ++ digS hi.toNat ++ digS rn.toNat ++ digS (zz rv) from rfl]
    simp only [ByteArray.size_append]; omega
theorem belA {w w1 w2 : World} (h : Below w.heap.size w w1) {o : Obj} (hb : Below (w1.alloc o).heap.size (w1.alloc o) w2) : Below w.heap.size w w2 := (bel_alloc h o).trans (hb.mono (bel_alloc h o).size)
theorem newA {w1 w2 : World} {o : Obj} (hb : Below (w1.alloc o).heap.size (w1.alloc o) w2) : w2.heap[w1.heap.size]? = some o := (hb.block w1.heap.size (by simp)).trans (heap_alloc_new w1 _)
theorem ne_emp {B : ByteArray} (h : 1 ≤ B.size) : B.toList.isEmpty = false := by
  rw [toListL]
  cases hh : B.data.toList with
  | nil => have := congrArg List.length hh; rw [Array.length_toList] at this; simp at this; rw [ByteArray.size] at h; rw [this] at h; simp at h
  | cons a l => rfl
end Go.Proofs.YtlboehpgpbchhaaGreat.Itm
