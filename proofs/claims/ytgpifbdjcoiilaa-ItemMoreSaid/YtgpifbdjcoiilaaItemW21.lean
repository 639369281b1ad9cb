/-
  WALKS: item.Get, a leaf for each kind.
-/
import Derived.Test.YtgpifbdjcoiilaaItemW20
import Derived.RegionTactic
namespace Go.Proofs.Ytgpifbdjcoiilaa
open Go.RowKit

set_option maxHeartbeats 2000000 in
set_option maxRecDepth 100000 in
theorem get_0 (s : ByteArray) (w : World) (hs : s.size ≤ 140737488355328) (a0 b0 : Int) (h0 : numP s 0 0 = (0, a0, b0)) (hb0 : b0 ≠ 0) (R : It × Int) (hR : fin s { itZ with kind := 0 } a0 b0 = R) :
    Calls Try.prog 47 #[.string s] w fun e w' => e = .returned (.tuple #[itV R.1, .int .i64 R.2]) ∧ Below w.heap.size w w' := by
  have S0 := Lib.hid (St.start w s 83 0 0)
  have H0 := Lib.hid h0
  clear h0
  have HR := Lib.hid hR
  clear hR
  have Hs := Lib.hid hs
  clear hs
  have hq0 : (b0 == 0) = false := beq_eq_false_iff_ne.2 hb0
  have Hb0 := Lib.hid hb0
  clear hb0
  go_enter Try.func47, Try.ntmps47
  go_wp2_with fail
  refine (read_num _ s 0 0 _ _ _ _ S0.out.rd Hs.out H0.out).mono ?_
  rintro e w1 ⟨rfl, hw⟩
  have S1 := Lib.hid (S0.out.read hw)
  clear hw S0
  have SF := Lib.hid (S1.out.put 0 (.int .i64 0) { itZ with kind := 0 } rfl)
  have BB : Below w.heap.size w w1 := S1.out.bel
  have c0 := cellsAt S1.out.it 0
  have c1 := cellsAt S1.out.it 1
  have c2 := cellsAt S1.out.it 2
  have c3 := cellsAt S1.out.it 3
  have c4 := cellsAt S1.out.it 4
  have c5 := cellsAt S1.out.it 5
  have c6 := cellsAt S1.out.it 6
  have c7 := cellsAt S1.out.it 7
  have c8 := cellsAt S1.out.it 8
  have c9 := cellsAt S1.out.it 9
  have c10 := cellsAt S1.out.it 10
  simp [itC, itZ] at c0 c1 c2 c3 c4 c5 c6 c7 c8 c9 c10
  have fj := frozAt S1.out.it 0
  have z0 := cellsAt S1.out.res 0
  have f0 := frozAt S1.out.res 0
  have z1 := cellsAt S1.out.res 1
  have f1 := frozAt S1.out.res 1
  have z2 := cellsAt S1.out.res 2
  have f2 := frozAt S1.out.res 2
  have z3 := cellsAt S1.out.res 3
  have f3 := frozAt S1.out.res 3
  have z4 := cellsAt S1.out.res 4
  have f4 := frozAt S1.out.res 4
  have z5 := cellsAt S1.out.res 5
  have f5 := frozAt S1.out.res 5
  have z6 := cellsAt S1.out.res 6
  have f6 := frozAt S1.out.res 6
  have z7 := cellsAt S1.out.res 7
  have f7 := frozAt S1.out.res 7
  have z8 := cellsAt S1.out.res 8
  have f8 := frozAt S1.out.res 8
  have z9 := cellsAt S1.out.res 9
  have f9 := frozAt S1.out.res 9
  have z10 := cellsAt S1.out.res 10
  have f10 := frozAt S1.out.res 10
  simp [itC, itZ] at z0 z1 z2 z3 z4 z5 z6 z7 z8 z9 z10
  have q1 := cellsAt S1.out.rd 1
  have q2 := cellsAt S1.out.rd 2
  simp at q1 q2
  have hb2 : (b0 != 0) = true := by simpa using Hb0.out
  go_wp2_with fail
  go_region
  go_wp2_with fail
  exact bodyPost_ret (v := .tuple #[.agg #[.int .i64 0, .string ⟨#[]⟩, .int .i64 0, .int .i64 0, .int .i64 0, .int .i64 0, .int .i64 0, .int .i64 0, .string ⟨#[]⟩, .int .i64 0, .int .i64 0], .int .i64 b0]) (by simp [results, Try.results47, go_sem, z0, z1, z2, z3, z4, z5, z6, z7, z8, z9, z10]) rfl ⟨by rw [fin_b HR.out Hb0.out]; rfl, by repeat' (first | (with_reducible assumption) | (with_reducible refine Below.drew ?_) | (with_reducible refine Below.setCell ?_ (by show w.heap.size ≤ _; simp; try omega) _))⟩
set_option maxHeartbeats 2000000 in
set_option maxRecDepth 100000 in
theorem get_1 (s : ByteArray) (w : World) (hs : s.size ≤ 140737488355328) (a0 : Int) (h0 : numP s 0 0 = (1, a0, 0)) (ek : ByteArray) (a1 b1 : Int) (h1 : txtP s a0 0 = (ek, a1, b1)) (ea : Int) (a2 b2 : Int) (h2 : numP s a1 b1 = (ea, a2, b2)) (ev : Int) (a3 b3 : Int) (h3 : sgnP s a2 b2 = (ev, a3, b3)) (R : It × Int) (hR : fin s { itZ with kind := 1, ek := ek, ea := ea, ev := ev } a3 b3 = R) :
    Calls Try.prog 47 #[.string s] w fun e w' => e = .returned (.tuple #[itV R.1, .int .i64 R.2]) ∧ Below w.heap.size w w' := by
  have S0 := Lib.hid (St.start w s 83 0 0)
  have H0 := Lib.hid h0
  clear h0
  have H1 := Lib.hid h1
  clear h1
  have H2 := Lib.hid h2
  clear h2
  have H3 := Lib.hid h3
  clear h3
  have HR := Lib.hid hR
  clear hR
  have Hs := Lib.hid hs
  clear hs
  go_enter Try.func47, Try.ntmps47
  go_wp2_with fail
  refine (read_num _ s 0 0 _ _ _ _ S0.out.rd Hs.out H0.out).mono ?_
  rintro e w1 ⟨rfl, hw⟩
  have S1 := Lib.hid (S0.out.read hw)
  clear hw S0
  have q2 := cellsAt S1.out.rd 2
  have cj := cellsAt S1.out.it 0
  have fj := frozAt S1.out.it 0
  simp [itC, itZ] at q2 cj
  go_wp2_with fail
  refine (read_txt _ s a0 0 _ _ _ _ (S1.out.put 0 (.int .i64 1) { itZ with kind := 1 } rfl).rd Hs.out H1.out).mono ?_
  rintro e w2 ⟨rfl, hw⟩
  have S2 := Lib.hid ((S1.out.put 0 (.int .i64 1) { itZ with kind := 1 } rfl).read hw)
  clear hw S1 q2 cj fj
  have q2 := cellsAt S2.out.rd 2
  have cj := cellsAt S2.out.it 1
  have fj := frozAt S2.out.it 1
  simp [itC, itZ] at q2 cj
  go_wp2_with fail
  refine (read_num _ s a1 b1 _ _ _ _ (S2.out.put 1 (.string ek) { itZ with kind := 1, ek := ek } rfl).rd Hs.out H2.out).mono ?_
  rintro e w3 ⟨rfl, hw⟩
  have S3 := Lib.hid ((S2.out.put 1 (.string ek) { itZ with kind := 1, ek := ek } rfl).read hw)
  clear hw S2 q2 cj fj
  have q2 := cellsAt S3.out.rd 2
  have cj := cellsAt S3.out.it 2
  have fj := frozAt S3.out.it 2
  simp [itC, itZ] at q2 cj
  go_wp2_with fail
  refine (read_sgn _ s a2 b2 _ _ _ _ (S3.out.put 2 (.int .i64 ea) { itZ with kind := 1, ek := ek, ea := ea } rfl).rd Hs.out H3.out).mono ?_
  rintro e w4 ⟨rfl, hw⟩
  have S4 := Lib.hid ((S3.out.put 2 (.int .i64 ea) { itZ with kind := 1, ek := ek, ea := ea } rfl).read hw)
  clear hw S3 q2 cj fj
  have SF := Lib.hid (S4.out.put 3 (.int .i64 ev) { itZ with kind := 1, ek := ek, ea := ea, ev := ev } rfl)
  have BB : Below w.heap.size w w4 := S4.out.bel
  have c0 := cellsAt S4.out.it 0
  have c1 := cellsAt S4.out.it 1
  have c2 := cellsAt S4.out.it 2
  have c3 := cellsAt S4.out.it 3
  have c4 := cellsAt S4.out.it 4
  have c5 := cellsAt S4.out.it 5
  have c6 := cellsAt S4.out.it 6
  have c7 := cellsAt S4.out.it 7
  have c8 := cellsAt S4.out.it 8
  have c9 := cellsAt S4.out.it 9
  have c10 := cellsAt S4.out.it 10
  simp [itC, itZ] at c0 c1 c2 c3 c4 c5 c6 c7 c8 c9 c10
  have fj := frozAt S4.out.it 3
  have z0 := cellsAt S4.out.res 0
  have f0 := frozAt S4.out.res 0
  have z1 := cellsAt S4.out.res 1
  have f1 := frozAt S4.out.res 1
  have z2 := cellsAt S4.out.res 2
  have f2 := frozAt S4.out.res 2
  have z3 := cellsAt S4.out.res 3
  have f3 := frozAt S4.out.res 3
  have z4 := cellsAt S4.out.res 4
  have f4 := frozAt S4.out.res 4
  have z5 := cellsAt S4.out.res 5
  have f5 := frozAt S4.out.res 5
  have z6 := cellsAt S4.out.res 6
  have f6 := frozAt S4.out.res 6
  have z7 := cellsAt S4.out.res 7
  have f7 := frozAt S4.out.res 7
  have z8 := cellsAt S4.out.res 8
  have f8 := frozAt S4.out.res 8
  have z9 := cellsAt S4.out.res 9
  have f9 := frozAt S4.out.res 9
  have z10 := cellsAt S4.out.res 10
  have f10 := frozAt S4.out.res 10
  simp [itC, itZ] at z0 z1 z2 z3 z4 z5 z6 z7 z8 z9 z10
  have q1 := cellsAt S4.out.rd 1
  have q2 := cellsAt S4.out.rd 2
  simp at q1 q2
  by_cases hb : b3 ≠ 0
  · have hb2 : (b3 != 0) = true := by simpa using hb
    have Hb := Lib.hid hb
    clear hb
    go_wp2_with fail
    go_region
    go_wp2_with fail
    exact bodyPost_ret (v := .tuple #[.agg #[.int .i64 0, .string ⟨#[]⟩, .int .i64 0, .int .i64 0, .int .i64 0, .int .i64 0, .int .i64 0, .int .i64 0, .string ⟨#[]⟩, .int .i64 0, .int .i64 0], .int .i64 b3]) (by simp [results, Try.results47, go_sem, z0, z1, z2, z3, z4, z5, z6, z7, z8, z9, z10]) rfl ⟨by rw [fin_b HR.out Hb.out]; rfl, by repeat' (first | (with_reducible assumption) | (with_reducible refine Below.drew ?_) | (with_reducible refine Below.setCell ?_ (by show w.heap.size ≤ _; simp; try omega) _))⟩
  have hb := Decidable.not_not.1 hb
  have hB := HR.out
  rw [hb] at hB q2
  have HB := Lib.hid hB
  clear hB hb HR
  by_cases ha : a3 < (s.size : Int)
  · have Ha := Lib.hid ha
    go_wp2_with fail
    exact bodyPost_ret (v := .tuple #[.agg #[.int .i64 0, .string ⟨#[]⟩, .int .i64 0, .int .i64 0, .int .i64 0, .int .i64 0, .int .i64 0, .int .i64 0, .string ⟨#[]⟩, .int .i64 0, .int .i64 0], .int .i64 21]) (by simp [results, Try.results47, go_sem, z0, z1, z2, z3, z4, z5, z6, z7, z8, z9, z10]) rfl ⟨by rw [fin_a HB.out Ha.out]; rfl, by repeat' (first | (with_reducible assumption) | (with_reducible refine Below.drew ?_) | (with_reducible refine Below.setCell ?_ (by show w.heap.size ≤ _; simp; try omega) _))⟩
  have Ha := Lib.hid ha
  obtain ⟨q, hq⟩ : ∃ q, rightI { itZ with kind := 1, ek := ek, ea := ea, ev := ev } = q := ⟨_, rfl⟩
  have HC : Hid (∀ W, Calls Try.prog 46 #[.agg #[.int .i64 1, .string ek, .int .i64 ea, .int .i64 ev, .int .i64 0, .int .i64 0, .int .i64 0, .int .i64 0, .string ⟨#[]⟩, .int .i64 0, .int .i64 0]] W fun e w' => e = .returned (.bool q) ∧ Below W.heap.size W w') := Lib.hid (fun W => right_any { itZ with kind := 1, ek := ek, ea := ea, ev := ev } W q hq)
  have Hq := Lib.hid hq
  clear hq
  go_wp2_with fail
  refine (HC.out _).mono ?_
  rintro e w9 ⟨rfl, hb9⟩
  obtain ⟨k0, -, k2, kb⟩ := SF.out.kept hb9
  clear hb9 BB c0 c1 c2 c3 c4 c5 c6 c7 c8 c9 c10 z0 z1 z2 z3 z4 z5 z6 z7 z8 z9 z10 f0 f1 f2 f3 f4 f5 f6 f7 f8 f9 f10 fj q1 q2
  have c0 := cellsAt k2 0
  have z0 := cellsAt k0 0
  have f0 := frozAt k0 0
  have c1 := cellsAt k2 1
  have z1 := cellsAt k0 1
  have f1 := frozAt k0 1
  have c2 := cellsAt k2 2
  have z2 := cellsAt k0 2
  have f2 := frozAt k0 2
  have c3 := cellsAt k2 3
  have z3 := cellsAt k0 3
  have f3 := frozAt k0 3
  have c4 := cellsAt k2 4
  have z4 := cellsAt k0 4
  have f4 := frozAt k0 4
  have c5 := cellsAt k2 5
  have z5 := cellsAt k0 5
  have f5 := frozAt k0 5
  have c6 := cellsAt k2 6
  have z6 := cellsAt k0 6
  have f6 := frozAt k0 6
  have c7 := cellsAt k2 7
  have z7 := cellsAt k0 7
  have f7 := frozAt k0 7
  have c8 := cellsAt k2 8
  have z8 := cellsAt k0 8
  have f8 := frozAt k0 8
  have c9 := cellsAt k2 9
  have z9 := cellsAt k0 9
  have f9 := frozAt k0 9
  have c10 := cellsAt k2 10
  have z10 := cellsAt k0 10
  have f10 := frozAt k0 10
  simp [itC, itZ] at c0 c1 c2 c3 c4 c5 c6 c7 c8 c9 c10 z0 z1 z2 z3 z4 z5 z6 z7 z8 z9 z10
  clear k0 k2
  cases q with
  | false =>
    go_wp2_with fail
    exact bodyPost_ret (v := .tuple #[.agg #[.int .i64 0, .string ⟨#[]⟩, .int .i64 0, .int .i64 0, .int .i64 0, .int .i64 0, .int .i64 0, .int .i64 0, .string ⟨#[]⟩, .int .i64 0, .int .i64 0], .int .i64 1]) (by simp [results, Try.results47, go_sem, z0, z1, z2, z3, z4, z5, z6, z7, z8, z9, z10]) rfl ⟨by rw [fin_r HB.out (by have := Ha.out; omega) Hq.out]; rfl, by repeat' (first | (with_reducible assumption) | (with_reducible refine Below.drew ?_) | (with_reducible refine Below.setCell ?_ (by show w.heap.size ≤ _; simp; try omega) _))⟩
  | true =>
    go_wp2_with fail
    exact bodyPost_ret (v := .tuple #[.agg #[.int .i64 1, .string ek, .int .i64 ea, .int .i64 ev, .int .i64 0, .int .i64 0, .int .i64 0, .int .i64 0, .string ⟨#[]⟩, .int .i64 0, .int .i64 0], .int .i64 0]) (by simp [results, Try.results47, go_sem, z0, z1, z2, z3, z4, z5, z6, z7, z8, z9, z10]) rfl ⟨by rw [fin_i HB.out (by have := Ha.out; omega) Hq.out]; rfl, by repeat' (first | (with_reducible assumption) | (with_reducible refine Below.drew ?_) | (with_reducible refine Below.setCell ?_ (by show w.heap.size ≤ _; simp; try omega) _))⟩
set_option maxHeartbeats 2000000 in
set_option maxRecDepth 100000 in
theorem get_2 (s : ByteArray) (w : World) (hs : s.size ≤ 140737488355328) (a0 : Int) (h0 : numP s 0 0 = (2, a0, 0)) (ma : Int) (a1 b1 : Int) (h1 : numP s a0 0 = (ma, a1, b1)) (R : It × Int) (hR : fin s { itZ with kind := 2, ma := ma } a1 b1 = R) :
    Calls Try.prog 47 #[.string s] w fun e w' => e = .returned (.tuple #[itV R.1, .int .i64 R.2]) ∧ Below w.heap.size w w' := by
  have S0 := Lib.hid (St.start w s 83 0 0)
  have H0 := Lib.hid h0
  clear h0
  have H1 := Lib.hid h1
  clear h1
  have HR := Lib.hid hR
  clear hR
  have Hs := Lib.hid hs
  clear hs
  go_enter Try.func47, Try.ntmps47
  go_wp2_with fail
  refine (read_num _ s 0 0 _ _ _ _ S0.out.rd Hs.out H0.out).mono ?_
  rintro e w1 ⟨rfl, hw⟩
  have S1 := Lib.hid (S0.out.read hw)
  clear hw S0
  have q2 := cellsAt S1.out.rd 2
  have cj := cellsAt S1.out.it 0
  have fj := frozAt S1.out.it 0
  simp [itC, itZ] at q2 cj
  go_wp2_with fail
  refine (read_num _ s a0 0 _ _ _ _ (S1.out.put 0 (.int .i64 2) { itZ with kind := 2 } rfl).rd Hs.out H1.out).mono ?_
  rintro e w2 ⟨rfl, hw⟩
  have S2 := Lib.hid ((S1.out.put 0 (.int .i64 2) { itZ with kind := 2 } rfl).read hw)
  clear hw S1 q2 cj fj
  have SF := Lib.hid (S2.out.put 4 (.int .i64 ma) { itZ with kind := 2, ma := ma } rfl)
  have BB : Below w.heap.size w w2 := S2.out.bel
  have c0 := cellsAt S2.out.it 0
  have c1 := cellsAt S2.out.it 1
  have c2 := cellsAt S2.out.it 2
  have c3 := cellsAt S2.out.it 3
  have c4 := cellsAt S2.out.it 4
  have c5 := cellsAt S2.out.it 5
  have c6 := cellsAt S2.out.it 6
  have c7 := cellsAt S2.out.it 7
  have c8 := cellsAt S2.out.it 8
  have c9 := cellsAt S2.out.it 9
  have c10 := cellsAt S2.out.it 10
  simp [itC, itZ] at c0 c1 c2 c3 c4 c5 c6 c7 c8 c9 c10
  have fj := frozAt S2.out.it 4
  have z0 := cellsAt S2.out.res 0
  have f0 := frozAt S2.out.res 0
  have z1 := cellsAt S2.out.res 1
  have f1 := frozAt S2.out.res 1
  have z2 := cellsAt S2.out.res 2
  have f2 := frozAt S2.out.res 2
  have z3 := cellsAt S2.out.res 3
  have f3 := frozAt S2.out.res 3
  have z4 := cellsAt S2.out.res 4
  have f4 := frozAt S2.out.res 4
  have z5 := cellsAt S2.out.res 5
  have f5 := frozAt S2.out.res 5
  have z6 := cellsAt S2.out.res 6
  have f6 := frozAt S2.out.res 6
  have z7 := cellsAt S2.out.res 7
  have f7 := frozAt S2.out.res 7
  have z8 := cellsAt S2.out.res 8
  have f8 := frozAt S2.out.res 8
  have z9 := cellsAt S2.out.res 9
  have f9 := frozAt S2.out.res 9
  have z10 := cellsAt S2.out.res 10
  have f10 := frozAt S2.out.res 10
  simp [itC, itZ] at z0 z1 z2 z3 z4 z5 z6 z7 z8 z9 z10
  have q1 := cellsAt S2.out.rd 1
  have q2 := cellsAt S2.out.rd 2
  simp at q1 q2
  by_cases hb : b1 ≠ 0
  · have hb2 : (b1 != 0) = true := by simpa using hb
    have Hb := Lib.hid hb
    clear hb
    go_wp2_with fail
    go_region
    go_wp2_with fail
    exact bodyPost_ret (v := .tuple #[.agg #[.int .i64 0, .string ⟨#[]⟩, .int .i64 0, .int .i64 0, .int .i64 0, .int .i64 0, .int .i64 0, .int .i64 0, .string ⟨#[]⟩, .int .i64 0, .int .i64 0], .int .i64 b1]) (by simp [results, Try.results47, go_sem, z0, z1, z2, z3, z4, z5, z6, z7, z8, z9, z10]) rfl ⟨by rw [fin_b HR.out Hb.out]; rfl, by repeat' (first | (with_reducible assumption) | (with_reducible refine Below.drew ?_) | (with_reducible refine Below.setCell ?_ (by show w.heap.size ≤ _; simp; try omega) _))⟩
  have hb := Decidable.not_not.1 hb
  have hB := HR.out
  rw [hb] at hB q2
  have HB := Lib.hid hB
  clear hB hb HR
  by_cases ha : a1 < (s.size : Int)
  · have Ha := Lib.hid ha
    go_wp2_with fail
    exact bodyPost_ret (v := .tuple #[.agg #[.int .i64 0, .string ⟨#[]⟩, .int .i64 0, .int .i64 0, .int .i64 0, .int .i64 0, .int .i64 0, .int .i64 0, .string ⟨#[]⟩, .int .i64 0, .int .i64 0], .int .i64 21]) (by simp [results, Try.results47, go_sem, z0, z1, z2, z3, z4, z5, z6, z7, z8, z9, z10]) rfl ⟨by rw [fin_a HB.out Ha.out]; rfl, by repeat' (first | (with_reducible assumption) | (with_reducible refine Below.drew ?_) | (with_reducible refine Below.setCell ?_ (by show w.heap.size ≤ _; simp; try omega) _))⟩
  have Ha := Lib.hid ha
  obtain ⟨q, hq⟩ : ∃ q, rightI { itZ with kind := 2, ma := ma } = q := ⟨_, rfl⟩
  have HC : Hid (∀ W, Calls Try.prog 46 #[.agg #[.int .i64 2, .string ⟨#[]⟩, .int .i64 0, .int .i64 0, .int .i64 ma, .int .i64 0, .int .i64 0, .int .i64 0, .string ⟨#[]⟩, .int .i64 0, .int .i64 0]] W fun e w' => e = .returned (.bool q) ∧ Below W.heap.size W w') := Lib.hid (fun W => right_any { itZ with kind := 2, ma := ma } W q hq)
  have Hq := Lib.hid hq
  clear hq
  go_wp2_with fail
  refine (HC.out _).mono ?_
  rintro e w9 ⟨rfl, hb9⟩
  obtain ⟨k0, -, k2, kb⟩ := SF.out.kept hb9
  clear hb9 BB c0 c1 c2 c3 c4 c5 c6 c7 c8 c9 c10 z0 z1 z2 z3 z4 z5 z6 z7 z8 z9 z10 f0 f1 f2 f3 f4 f5 f6 f7 f8 f9 f10 fj q1 q2
  have c0 := cellsAt k2 0
  have z0 := cellsAt k0 0
  have f0 := frozAt k0 0
  have c1 := cellsAt k2 1
  have z1 := cellsAt k0 1
  have f1 := frozAt k0 1
  have c2 := cellsAt k2 2
  have z2 := cellsAt k0 2
  have f2 := frozAt k0 2
  have c3 := cellsAt k2 3
  have z3 := cellsAt k0 3
  have f3 := frozAt k0 3
  have c4 := cellsAt k2 4
  have z4 := cellsAt k0 4
  have f4 := frozAt k0 4
  have c5 := cellsAt k2 5
  have z5 := cellsAt k0 5
  have f5 := frozAt k0 5
  have c6 := cellsAt k2 6
  have z6 := cellsAt k0 6
  have f6 := frozAt k0 6
  have c7 := cellsAt k2 7
  have z7 := cellsAt k0 7
  have f7 := frozAt k0 7
  have c8 := cellsAt k2 8
  have z8 := cellsAt k0 8
  have f8 := frozAt k0 8
  have c9 := cellsAt k2 9
  have z9 := cellsAt k0 9
  have f9 := frozAt k0 9
  have c10 := cellsAt k2 10
  have z10 := cellsAt k0 10
  have f10 := frozAt k0 10
  simp [itC, itZ] at c0 c1 c2 c3 c4 c5 c6 c7 c8 c9 c10 z0 z1 z2 z3 z4 z5 z6 z7 z8 z9 z10
  clear k0 k2
  cases q with
  | false =>
    go_wp2_with fail
    exact bodyPost_ret (v := .tuple #[.agg #[.int .i64 0, .string ⟨#[]⟩, .int .i64 0, .int .i64 0, .int .i64 0, .int .i64 0, .int .i64 0, .int .i64 0, .string ⟨#[]⟩, .int .i64 0, .int .i64 0], .int .i64 1]) (by simp [results, Try.results47, go_sem, z0, z1, z2, z3, z4, z5, z6, z7, z8, z9, z10]) rfl ⟨by rw [fin_r HB.out (by have := Ha.out; omega) Hq.out]; rfl, by repeat' (first | (with_reducible assumption) | (with_reducible refine Below.drew ?_) | (with_reducible refine Below.setCell ?_ (by show w.heap.size ≤ _; simp; try omega) _))⟩
  | true =>
    go_wp2_with fail
    exact bodyPost_ret (v := .tuple #[.agg #[.int .i64 2, .string ⟨#[]⟩, .int .i64 0, .int .i64 0, .int .i64 ma, .int .i64 0, .int .i64 0, .int .i64 0, .string ⟨#[]⟩, .int .i64 0, .int .i64 0], .int .i64 0]) (by simp [results, Try.results47, go_sem, z0, z1, z2, z3, z4, z5, z6, z7, z8, z9, z10]) rfl ⟨by rw [fin_i HB.out (by have := Ha.out; omega) Hq.out]; rfl, by repeat' (first | (with_reducible assumption) | (with_reducible refine Below.drew ?_) | (with_reducible refine Below.setCell ?_ (by show w.heap.size ≤ _; simp; try omega) _))⟩
set_option maxHeartbeats 2000000 in
set_option maxRecDepth 100000 in
theorem get_3 (s : ByteArray) (w : World) (hs : s.size ≤ 140737488355328) (a0 : Int) (h0 : numP s 0 0 = (3, a0, 0)) (R : It × Int) (hR : fin s { itZ with kind := 3 } a0 0 = R) :
    Calls Try.prog 47 #[.string s] w fun e w' => e = .returned (.tuple #[itV R.1, .int .i64 R.2]) ∧ Below w.heap.size w w' := by
  have S0 := Lib.hid (St.start w s 83 0 0)
  have H0 := Lib.hid h0
  clear h0
  have HR := Lib.hid hR
  clear hR
  have Hs := Lib.hid hs
  clear hs
  go_enter Try.func47, Try.ntmps47
  go_wp2_with fail
  refine (read_num _ s 0 0 _ _ _ _ S0.out.rd Hs.out H0.out).mono ?_
  rintro e w1 ⟨rfl, hw⟩
  have S1 := Lib.hid (S0.out.read hw)
  clear hw S0
  have SF := Lib.hid (S1.out.put 0 (.int .i64 3) { itZ with kind := 3 } rfl)
  have BB : Below w.heap.size w w1 := S1.out.bel
  have c0 := cellsAt S1.out.it 0
  have c1 := cellsAt S1.out.it 1
  have c2 := cellsAt S1.out.it 2
  have c3 := cellsAt S1.out.it 3
  have c4 := cellsAt S1.out.it 4
  have c5 := cellsAt S1.out.it 5
  have c6 := cellsAt S1.out.it 6
  have c7 := cellsAt S1.out.it 7
  have c8 := cellsAt S1.out.it 8
  have c9 := cellsAt S1.out.it 9
  have c10 := cellsAt S1.out.it 10
  simp [itC, itZ] at c0 c1 c2 c3 c4 c5 c6 c7 c8 c9 c10
  have fj := frozAt S1.out.it 0
  have z0 := cellsAt S1.out.res 0
  have f0 := frozAt S1.out.res 0
  have z1 := cellsAt S1.out.res 1
  have f1 := frozAt S1.out.res 1
  have z2 := cellsAt S1.out.res 2
  have f2 := frozAt S1.out.res 2
  have z3 := cellsAt S1.out.res 3
  have f3 := frozAt S1.out.res 3
  have z4 := cellsAt S1.out.res 4
  have f4 := frozAt S1.out.res 4
  have z5 := cellsAt S1.out.res 5
  have f5 := frozAt S1.out.res 5
  have z6 := cellsAt S1.out.res 6
  have f6 := frozAt S1.out.res 6
  have z7 := cellsAt S1.out.res 7
  have f7 := frozAt S1.out.res 7
  have z8 := cellsAt S1.out.res 8
  have f8 := frozAt S1.out.res 8
  have z9 := cellsAt S1.out.res 9
  have f9 := frozAt S1.out.res 9
  have z10 := cellsAt S1.out.res 10
  have f10 := frozAt S1.out.res 10
  simp [itC, itZ] at z0 z1 z2 z3 z4 z5 z6 z7 z8 z9 z10
  have q1 := cellsAt S1.out.rd 1
  have q2 := cellsAt S1.out.rd 2
  simp at q1 q2
  have HB := HR
  by_cases ha : a0 < (s.size : Int)
  · have Ha := Lib.hid ha
    go_wp2_with fail
    exact bodyPost_ret (v := .tuple #[.agg #[.int .i64 0, .string ⟨#[]⟩, .int .i64 0, .int .i64 0, .int .i64 0, .int .i64 0, .int .i64 0, .int .i64 0, .string ⟨#[]⟩, .int .i64 0, .int .i64 0], .int .i64 21]) (by simp [results, Try.results47, go_sem, z0, z1, z2, z3, z4, z5, z6, z7, z8, z9, z10]) rfl ⟨by rw [fin_a HB.out Ha.out]; rfl, by repeat' (first | (with_reducible assumption) | (with_reducible refine Below.drew ?_) | (with_reducible refine Below.setCell ?_ (by show w.heap.size ≤ _; simp; try omega) _))⟩
  have Ha := Lib.hid ha
  obtain ⟨q, hq⟩ : ∃ q, rightI { itZ with kind := 3 } = q := ⟨_, rfl⟩
  have HC : Hid (∀ W, Calls Try.prog 46 #[.agg #[.int .i64 3, .string ⟨#[]⟩, .int .i64 0, .int .i64 0, .int .i64 0, .int .i64 0, .int .i64 0, .int .i64 0, .string ⟨#[]⟩, .int .i64 0, .int .i64 0]] W fun e w' => e = .returned (.bool q) ∧ Below W.heap.size W w') := Lib.hid (fun W => right_any { itZ with kind := 3 } W q hq)
  have Hq := Lib.hid hq
  clear hq
  go_wp2_with fail
  refine (HC.out _).mono ?_
  rintro e w9 ⟨rfl, hb9⟩
  obtain ⟨k0, -, k2, kb⟩ := SF.out.kept hb9
  clear hb9 BB c0 c1 c2 c3 c4 c5 c6 c7 c8 c9 c10 z0 z1 z2 z3 z4 z5 z6 z7 z8 z9 z10 f0 f1 f2 f3 f4 f5 f6 f7 f8 f9 f10 fj q1 q2
  have c0 := cellsAt k2 0
  have z0 := cellsAt k0 0
  have f0 := frozAt k0 0
  have c1 := cellsAt k2 1
  have z1 := cellsAt k0 1
  have f1 := frozAt k0 1
  have c2 := cellsAt k2 2
  have z2 := cellsAt k0 2
  have f2 := frozAt k0 2
  have c3 := cellsAt k2 3
  have z3 := cellsAt k0 3
  have f3 := frozAt k0 3
  have c4 := cellsAt k2 4
  have z4 := cellsAt k0 4
  have f4 := frozAt k0 4
  have c5 := cellsAt k2 5
  have z5 := cellsAt k0 5
  have f5 := frozAt k0 5
  have c6 := cellsAt k2 6
  have z6 := cellsAt k0 6
  have f6 := frozAt k0 6
  have c7 := cellsAt k2 7
  have z7 := cellsAt k0 7
  have f7 := frozAt k0 7
  have c8 := cellsAt k2 8
  have z8 := cellsAt k0 8
  have f8 := frozAt k0 8
  have c9 := cellsAt k2 9
  have z9 := cellsAt k0 9
  have f9 := frozAt k0 9
  have c10 := cellsAt k2 10
  have z10 := cellsAt k0 10
  have f10 := frozAt k0 10
  simp [itC, itZ] at c0 c1 c2 c3 c4 c5 c6 c7 c8 c9 c10 z0 z1 z2 z3 z4 z5 z6 z7 z8 z9 z10
  clear k0 k2
  cases q with
  | false =>
    go_wp2_with fail
    exact bodyPost_ret (v := .tuple #[.agg #[.int .i64 0, .string ⟨#[]⟩, .int .i64 0, .int .i64 0, .int .i64 0, .int .i64 0, .int .i64 0, .int .i64 0, .string ⟨#[]⟩, .int .i64 0, .int .i64 0], .int .i64 1]) (by simp [results, Try.results47, go_sem, z0, z1, z2, z3, z4, z5, z6, z7, z8, z9, z10]) rfl ⟨by rw [fin_r HB.out (by have := Ha.out; omega) Hq.out]; rfl, by repeat' (first | (with_reducible assumption) | (with_reducible refine Below.drew ?_) | (with_reducible refine Below.setCell ?_ (by show w.heap.size ≤ _; simp; try omega) _))⟩
  | true =>
    go_wp2_with fail
    exact bodyPost_ret (v := .tuple #[.agg #[.int .i64 3, .string ⟨#[]⟩, .int .i64 0, .int .i64 0, .int .i64 0, .int .i64 0, .int .i64 0, .int .i64 0, .string ⟨#[]⟩, .int .i64 0, .int .i64 0], .int .i64 0]) (by simp [results, Try.results47, go_sem, z0, z1, z2, z3, z4, z5, z6, z7, z8, z9, z10]) rfl ⟨by rw [fin_i HB.out (by have := Ha.out; omega) Hq.out]; rfl, by repeat' (first | (with_reducible assumption) | (with_reducible refine Below.drew ?_) | (with_reducible refine Below.setCell ?_ (by show w.heap.size ≤ _; simp; try omega) _))⟩
set_option maxHeartbeats 2000000 in
set_option maxRecDepth 100000 in
theorem get_4 (s : ByteArray) (w : World) (hs : s.size ≤ 140737488355328) (a0 : Int) (h0 : numP s 0 0 = (4, a0, 0)) (n : Int) (a1 b1 : Int) (h1 : numP s a0 0 = (n, a1, b1)) (R : It × Int) (hR : fin s { itZ with kind := 4, n := n } a1 b1 = R) :
    Calls Try.prog 47 #[.string s] w fun e w' => e = .returned (.tuple #[itV R.1, .int .i64 R.2]) ∧ Below w.heap.size w w' := by
  have S0 := Lib.hid (St.start w s 83 0 0)
  have H0 := Lib.hid h0
  clear h0
  have H1 := Lib.hid h1
  clear h1
  have HR := Lib.hid hR
  clear hR
  have Hs := Lib.hid hs
  clear hs
  go_enter Try.func47, Try.ntmps47
  go_wp2_with fail
  refine (read_num _ s 0 0 _ _ _ _ S0.out.rd Hs.out H0.out).mono ?_
  rintro e w1 ⟨rfl, hw⟩
  have S1 := Lib.hid (S0.out.read hw)
  clear hw S0
  have q2 := cellsAt S1.out.rd 2
  have cj := cellsAt S1.out.it 0
  have fj := frozAt S1.out.it 0
  simp [itC, itZ] at q2 cj
  go_wp2_with fail
  refine (read_num _ s a0 0 _ _ _ _ (S1.out.put 0 (.int .i64 4) { itZ with kind := 4 } rfl).rd Hs.out H1.out).mono ?_
  rintro e w2 ⟨rfl, hw⟩
  have S2 := Lib.hid ((S1.out.put 0 (.int .i64 4) { itZ with kind := 4 } rfl).read hw)
  clear hw S1 q2 cj fj
  have SF := Lib.hid (S2.out.put 5 (.int .i64 n) { itZ with kind := 4, n := n } rfl)
  have BB : Below w.heap.size w w2 := S2.out.bel
  have c0 := cellsAt S2.out.it 0
  have c1 := cellsAt S2.out.it 1
  have c2 := cellsAt S2.out.it 2
  have c3 := cellsAt S2.out.it 3
  have c4 := cellsAt S2.out.it 4
  have c5 := cellsAt S2.out.it 5
  have c6 := cellsAt S2.out.it 6
  have c7 := cellsAt S2.out.it 7
  have c8 := cellsAt S2.out.it 8
  have c9 := cellsAt S2.out.it 9
  have c10 := cellsAt S2.out.it 10
  simp [itC, itZ] at c0 c1 c2 c3 c4 c5 c6 c7 c8 c9 c10
  have fj := frozAt S2.out.it 5
  have z0 := cellsAt S2.out.res 0
  have f0 := frozAt S2.out.res 0
  have z1 := cellsAt S2.out.res 1
  have f1 := frozAt S2.out.res 1
  have z2 := cellsAt S2.out.res 2
  have f2 := frozAt S2.out.res 2
  have z3 := cellsAt S2.out.res 3
  have f3 := frozAt S2.out.res 3
  have z4 := cellsAt S2.out.res 4
  have f4 := frozAt S2.out.res 4
  have z5 := cellsAt S2.out.res 5
  have f5 := frozAt S2.out.res 5
  have z6 := cellsAt S2.out.res 6
  have f6 := frozAt S2.out.res 6
  have z7 := cellsAt S2.out.res 7
  have f7 := frozAt S2.out.res 7
  have z8 := cellsAt S2.out.res 8
  have f8 := frozAt S2.out.res 8
  have z9 := cellsAt S2.out.res 9
  have f9 := frozAt S2.out.res 9
  have z10 := cellsAt S2.out.res 10
  have f10 := frozAt S2.out.res 10
  simp [itC, itZ] at z0 z1 z2 z3 z4 z5 z6 z7 z8 z9 z10
  have q1 := cellsAt S2.out.rd 1
  have q2 := cellsAt S2.out.rd 2
  simp at q1 q2
  by_cases hb : b1 ≠ 0
  · have hb2 : (b1 != 0) = true := by simpa using hb
    have Hb := Lib.hid hb
    clear hb
    go_wp2_with fail
    go_region
    go_wp2_with fail
    exact bodyPost_ret (v := .tuple #[.agg #[.int .i64 0, .string ⟨#[]⟩, .int .i64 0, .int .i64 0, .int .i64 0, .int .i64 0, .int .i64 0, .int .i64 0, .string ⟨#[]⟩, .int .i64 0, .int .i64 0], .int .i64 b1]) (by simp [results, Try.results47, go_sem, z0, z1, z2, z3, z4, z5, z6, z7, z8, z9, z10]) rfl ⟨by rw [fin_b HR.out Hb.out]; rfl, by repeat' (first | (with_reducible assumption) | (with_reducible refine Below.drew ?_) | (with_reducible refine Below.setCell ?_ (by show w.heap.size ≤ _; simp; try omega) _))⟩
  have hb := Decidable.not_not.1 hb
  have hB := HR.out
  rw [hb] at hB q2
  have HB := Lib.hid hB
  clear hB hb HR
  by_cases ha : a1 < (s.size : Int)
  · have Ha := Lib.hid ha
    go_wp2_with fail
    exact bodyPost_ret (v := .tuple #[.agg #[.int .i64 0, .string ⟨#[]⟩, .int .i64 0, .int .i64 0, .int .i64 0, .int .i64 0, .int .i64 0, .int .i64 0, .string ⟨#[]⟩, .int .i64 0, .int .i64 0], .int .i64 21]) (by simp [results, Try.results47, go_sem, z0, z1, z2, z3, z4, z5, z6, z7, z8, z9, z10]) rfl ⟨by rw [fin_a HB.out Ha.out]; rfl, by repeat' (first | (with_reducible assumption) | (with_reducible refine Below.drew ?_) | (with_reducible refine Below.setCell ?_ (by show w.heap.size ≤ _; simp; try omega) _))⟩
  have Ha := Lib.hid ha
  obtain ⟨q, hq⟩ : ∃ q, rightI { itZ with kind := 4, n := n } = q := ⟨_, rfl⟩
  have HC : Hid (∀ W, Calls Try.prog 46 #[.agg #[.int .i64 4, .string ⟨#[]⟩, .int .i64 0, .int .i64 0, .int .i64 0, .int .i64 n, .int .i64 0, .int .i64 0, .string ⟨#[]⟩, .int .i64 0, .int .i64 0]] W fun e w' => e = .returned (.bool q) ∧ Below W.heap.size W w') := Lib.hid (fun W => right_any { itZ with kind := 4, n := n } W q hq)
  have Hq := Lib.hid hq
  clear hq
  go_wp2_with fail
  refine (HC.out _).mono ?_
  rintro e w9 ⟨rfl, hb9⟩
  obtain ⟨k0, -, k2, kb⟩ := SF.out.kept hb9
  clear hb9 BB c0 c1 c2 c3 c4 c5 c6 c7 c8 c9 c10 z0 z1 z2 z3 z4 z5 z6 z7 z8 z9 z10 f0 f1 f2 f3 f4 f5 f6 f7 f8 f9 f10 fj q1 q2
  have c0 := cellsAt k2 0
  have z0 := cellsAt k0 0
  have f0 := frozAt k0 0
  have c1 := cellsAt k2 1
  have z1 := cellsAt k0 1
  have f1 := frozAt k0 1
  have c2 := cellsAt k2 2
  have z2 := cellsAt k0 2
  have f2 := frozAt k0 2
  have c3 := cellsAt k2 3
  have z3 := cellsAt k0 3
  have f3 := frozAt k0 3
  have c4 := cellsAt k2 4
  have z4 := cellsAt k0 4
  have f4 := frozAt k0 4
  have c5 := cellsAt k2 5
  have z5 := cellsAt k0 5
  have f5 := frozAt k0 5
  have c6 := cellsAt k2 6
  have z6 := cellsAt k0 6
  have f6 := frozAt k0 6
  have c7 := cellsAt k2 7
  have z7 := cellsAt k0 7
  have f7 := frozAt k0 7
  have c8 := cellsAt k2 8
  have z8 := cellsAt k0 8
  have f8 := frozAt k0 8
  have c9 := cellsAt k2 9
  have z9 := cellsAt k0 9
  have f9 := frozAt k0 9
  have c10 := cellsAt k2 10
  have z10 := cellsAt k0 10
  have f10 := frozAt k0 10
  simp [itC, itZ] at c0 c1 c2 c3 c4 c5 c6 c7 c8 c9 c10 z0 z1 z2 z3 z4 z5 z6 z7 z8 z9 z10
  clear k0 k2
  cases q with
  | false =>
    go_wp2_with fail
    exact bodyPost_ret (v := .tuple #[.agg #[.int .i64 0, .string ⟨#[]⟩, .int .i64 0, .int .i64 0, .int .i64 0, .int .i64 0, .int .i64 0, .int .i64 0, .string ⟨#[]⟩, .int .i64 0, .int .i64 0], .int .i64 1]) (by simp [results, Try.results47, go_sem, z0, z1, z2, z3, z4, z5, z6, z7, z8, z9, z10]) rfl ⟨by rw [fin_r HB.out (by have := Ha.out; omega) Hq.out]; rfl, by repeat' (first | (with_reducible assumption) | (with_reducible refine Below.drew ?_) | (with_reducible refine Below.setCell ?_ (by show w.heap.size ≤ _; simp; try omega) _))⟩
  | true =>
    go_wp2_with fail
    exact bodyPost_ret (v := .tuple #[.agg #[.int .i64 4, .string ⟨#[]⟩, .int .i64 0, .int .i64 0, .int .i64 0, .int .i64 n, .int .i64 0, .int .i64 0, .string ⟨#[]⟩, .int .i64 0, .int .i64 0], .int .i64 0]) (by simp [results, Try.results47, go_sem, z0, z1, z2, z3, z4, z5, z6, z7, z8, z9, z10]) rfl ⟨by rw [fin_i HB.out (by have := Ha.out; omega) Hq.out]; rfl, by repeat' (first | (with_reducible assumption) | (with_reducible refine Below.drew ?_) | (with_reducible refine Below.setCell ?_ (by show w.heap.size ≤ _; simp; try omega) _))⟩
set_option maxHeartbeats 2000000 in
set_option maxRecDepth 100000 in
theorem get_5 (s : ByteArray) (w : World) (hs : s.size ≤ 140737488355328) (a0 : Int) (h0 : numP s 0 0 = (5, a0, 0)) (rk : ByteArray) (a1 b1 : Int) (h1 : txtP s a0 0 = (rk, a1, b1)) (lo : Int) (a2 b2 : Int) (h2 : numP s a1 b1 = (lo, a2, b2)) (hi : Int) (a3 b3 : Int) (h3 : numP s a2 b2 = (hi, a3, b3)) (rn : Int) (a4 b4 : Int) (h4 : numP s a3 b3 = (rn, a4, b4)) (rv : Int) (a5 b5 : Int) (h5 : sgnP s a4 b4 = (rv, a5, b5)) (R : It × Int) (hR : fin s { itZ with kind := 5, rk := rk, lo := lo, hi := hi, rn := rn, rv := rv } a5 b5 = R) :
    Calls Try.prog 47 #[.string s] w fun e w' => e = .returned (.tuple #[itV R.1, .int .i64 R.2]) ∧ Below w.heap.size w w' := by
  have S0 := Lib.hid (St.start w s 83 0 0)
  have H0 := Lib.hid h0
  clear h0
  have H1 := Lib.hid h1
  clear h1
  have H2 := Lib.hid h2
  clear h2
  have H3 := Lib.hid h3
  clear h3
  have H4 := Lib.hid h4
  clear h4
  have H5 := Lib.hid h5
  clear h5
  have HR := Lib.hid hR
  clear hR
  have Hs := Lib.hid hs
  clear hs
  go_enter Try.func47, Try.ntmps47
  go_wp2_with fail
  refine (read_num _ s 0 0 _ _ _ _ S0.out.rd Hs.out H0.out).mono ?_
  rintro e w1 ⟨rfl, hw⟩
  have S1 := Lib.hid (S0.out.read hw)
  clear hw S0
  have q2 := cellsAt S1.out.rd 2
  have cj := cellsAt S1.out.it 0
  have fj := frozAt S1.out.it 0
  simp [itC, itZ] at q2 cj
  go_wp2_with fail
  refine (read_txt _ s a0 0 _ _ _ _ (S1.out.put 0 (.int .i64 5) { itZ with kind := 5 } rfl).rd Hs.out H1.out).mono ?_
  rintro e w2 ⟨rfl, hw⟩
  have S2 := Lib.hid ((S1.out.put 0 (.int .i64 5) { itZ with kind := 5 } rfl).read hw)
  clear hw S1 q2 cj fj
  have q2 := cellsAt S2.out.rd 2
  have cj := cellsAt S2.out.it 8
  have fj := frozAt S2.out.it 8
  simp [itC, itZ] at q2 cj
  go_wp2_with fail
  refine (read_num _ s a1 b1 _ _ _ _ (S2.out.put 8 (.string rk) { itZ with kind := 5, rk := rk } rfl).rd Hs.out H2.out).mono ?_
  rintro e w3 ⟨rfl, hw⟩
  have S3 := Lib.hid ((S2.out.put 8 (.string rk) { itZ with kind := 5, rk := rk } rfl).read hw)
  clear hw S2 q2 cj fj
  have q2 := cellsAt S3.out.rd 2
  have cj := cellsAt S3.out.it 6
  have fj := frozAt S3.out.it 6
  simp [itC, itZ] at q2 cj
  go_wp2_with fail
  refine (read_num _ s a2 b2 _ _ _ _ (S3.out.put 6 (.int .i64 lo) { itZ with kind := 5, rk := rk, lo := lo } rfl).rd Hs.out H3.out).mono ?_
  rintro e w4 ⟨rfl, hw⟩
  have S4 := Lib.hid ((S3.out.put 6 (.int .i64 lo) { itZ with kind := 5, rk := rk, lo := lo } rfl).read hw)
  clear hw S3 q2 cj fj
  have q2 := cellsAt S4.out.rd 2
  have cj := cellsAt S4.out.it 7
  have fj := frozAt S4.out.it 7
  simp [itC, itZ] at q2 cj
  go_wp2_with fail
  refine (read_num _ s a3 b3 _ _ _ _ (S4.out.put 7 (.int .i64 hi) { itZ with kind := 5, rk := rk, lo := lo, hi := hi } rfl).rd Hs.out H4.out).mono ?_
  rintro e w5 ⟨rfl, hw⟩
  have S5 := Lib.hid ((S4.out.put 7 (.int .i64 hi) { itZ with kind := 5, rk := rk, lo := lo, hi := hi } rfl).read hw)
  clear hw S4 q2 cj fj
  have q2 := cellsAt S5.out.rd 2
  have cj := cellsAt S5.out.it 9
  have fj := frozAt S5.out.it 9
  simp [itC, itZ] at q2 cj
  go_wp2_with fail
  refine (read_sgn _ s a4 b4 _ _ _ _ (S5.out.put 9 (.int .i64 rn) { itZ with kind := 5, rk := rk, lo := lo, hi := hi, rn := rn } rfl).rd Hs.out H5.out).mono ?_
  rintro e w6 ⟨rfl, hw⟩
  have S6 := Lib.hid ((S5.out.put 9 (.int .i64 rn) { itZ with kind := 5, rk := rk, lo := lo, hi := hi, rn := rn } rfl).read hw)
  clear hw S5 q2 cj fj
  have SF := Lib.hid (S6.out.put 10 (.int .i64 rv) { itZ with kind := 5, rk := rk, lo := lo, hi := hi, rn := rn, rv := rv } rfl)
  have BB : Below w.heap.size w w6 := S6.out.bel
  have c0 := cellsAt S6.out.it 0
  have c1 := cellsAt S6.out.it 1
  have c2 := cellsAt S6.out.it 2
  have c3 := cellsAt S6.out.it 3
  have c4 := cellsAt S6.out.it 4
  have c5 := cellsAt S6.out.it 5
  have c6 := cellsAt S6.out.it 6
  have c7 := cellsAt S6.out.it 7
  have c8 := cellsAt S6.out.it 8
  have c9 := cellsAt S6.out.it 9
  have c10 := cellsAt S6.out.it 10
  simp [itC, itZ] at c0 c1 c2 c3 c4 c5 c6 c7 c8 c9 c10
  have fj := frozAt S6.out.it 10
  have z0 := cellsAt S6.out.res 0
  have f0 := frozAt S6.out.res 0
  have z1 := cellsAt S6.out.res 1
  have f1 := frozAt S6.out.res 1
  have z2 := cellsAt S6.out.res 2
  have f2 := frozAt S6.out.res 2
  have z3 := cellsAt S6.out.res 3
  have f3 := frozAt S6.out.res 3
  have z4 := cellsAt S6.out.res 4
  have f4 := frozAt S6.out.res 4
  have z5 := cellsAt S6.out.res 5
  have f5 := frozAt S6.out.res 5
  have z6 := cellsAt S6.out.res 6
  have f6 := frozAt S6.out.res 6
  have z7 := cellsAt S6.out.res 7
  have f7 := frozAt S6.out.res 7
  have z8 := cellsAt S6.out.res 8
  have f8 := frozAt S6.out.res 8
  have z9 := cellsAt S6.out.res 9
  have f9 := frozAt S6.out.res 9
  have z10 := cellsAt S6.out.res 10
  have f10 := frozAt S6.out.res 10
  simp [itC, itZ] at z0 z1 z2 z3 z4 z5 z6 z7 z8 z9 z10
  have q1 := cellsAt S6.out.rd 1
  have q2 := cellsAt S6.out.rd 2
  simp at q1 q2
  by_cases hb : b5 ≠ 0
  · have hb2 : (b5 != 0) = true := by simpa using hb
    have Hb := Lib.hid hb
    clear hb
    go_wp2_with fail
    go_region
    go_wp2_with fail
    exact bodyPost_ret (v := .tuple #[.agg #[.int .i64 0, .string ⟨#[]⟩, .int .i64 0, .int .i64 0, .int .i64 0, .int .i64 0, .int .i64 0, .int .i64 0, .string ⟨#[]⟩, .int .i64 0, .int .i64 0], .int .i64 b5]) (by simp [results, Try.results47, go_sem, z0, z1, z2, z3, z4, z5, z6, z7, z8, z9, z10]) rfl ⟨by rw [fin_b HR.out Hb.out]; rfl, by repeat' (first | (with_reducible assumption) | (with_reducible refine Below.drew ?_) | (with_reducible refine Below.setCell ?_ (by show w.heap.size ≤ _; simp; try omega) _))⟩
  have hb := Decidable.not_not.1 hb
  have hB := HR.out
  rw [hb] at hB q2
  have HB := Lib.hid hB
  clear hB hb HR
  by_cases ha : a5 < (s.size : Int)
  · have Ha := Lib.hid ha
    go_wp2_with fail
    exact bodyPost_ret (v := .tuple #[.agg #[.int .i64 0, .string ⟨#[]⟩, .int .i64 0, .int .i64 0, .int .i64 0, .int .i64 0, .int .i64 0, .int .i64 0, .string ⟨#[]⟩, .int .i64 0, .int .i64 0], .int .i64 21]) (by simp [results, Try.results47, go_sem, z0, z1, z2, z3, z4, z5, z6, z7, z8, z9, z10]) rfl ⟨by rw [fin_a HB.out Ha.out]; rfl, by repeat' (first | (with_reducible assumption) | (with_reducible refine Below.drew ?_) | (with_reducible refine Below.setCell ?_ (by show w.heap.size ≤ _; simp; try omega) _))⟩
  have Ha := Lib.hid ha
  obtain ⟨q, hq⟩ : ∃ q, rightI { itZ with kind := 5, rk := rk, lo := lo, hi := hi, rn := rn, rv := rv } = q := ⟨_, rfl⟩
  have HC : Hid (∀ W, Calls Try.prog 46 #[.agg #[.int .i64 5, .string ⟨#[]⟩, .int .i64 0, .int .i64 0, .int .i64 0, .int .i64 0, .int .i64 lo, .int .i64 hi, .string rk, .int .i64 rn, .int .i64 rv]] W fun e w' => e = .returned (.bool q) ∧ Below W.heap.size W w') := Lib.hid (fun W => right_any { itZ with kind := 5, rk := rk, lo := lo, hi := hi, rn := rn, rv := rv } W q hq)
  have Hq := Lib.hid hq
  clear hq
  go_wp2_with fail
  refine (HC.out _).mono ?_
  rintro e w9 ⟨rfl, hb9⟩
  obtain ⟨k0, -, k2, kb⟩ := SF.out.kept hb9
  clear hb9 BB c0 c1 c2 c3 c4 c5 c6 c7 c8 c9 c10 z0 z1 z2 z3 z4 z5 z6 z7 z8 z9 z10 f0 f1 f2 f3 f4 f5 f6 f7 f8 f9 f10 fj q1 q2
  have c0 := cellsAt k2 0
  have z0 := cellsAt k0 0
  have f0 := frozAt k0 0
  have c1 := cellsAt k2 1
  have z1 := cellsAt k0 1
  have f1 := frozAt k0 1
  have c2 := cellsAt k2 2
  have z2 := cellsAt k0 2
  have f2 := frozAt k0 2
  have c3 := cellsAt k2 3
  have z3 := cellsAt k0 3
  have f3 := frozAt k0 3
  have c4 := cellsAt k2 4
  have z4 := cellsAt k0 4
  have f4 := frozAt k0 4
  have c5 := cellsAt k2 5
  have z5 := cellsAt k0 5
  have f5 := frozAt k0 5
  have c6 := cellsAt k2 6
  have z6 := cellsAt k0 6
  have f6 := frozAt k0 6
  have c7 := cellsAt k2 7
  have z7 := cellsAt k0 7
  have f7 := frozAt k0 7
  have c8 := cellsAt k2 8
  have z8 := cellsAt k0 8
  have f8 := frozAt k0 8
  have c9 := cellsAt k2 9
  have z9 := cellsAt k0 9
  have f9 := frozAt k0 9
  have c10 := cellsAt k2 10
  have z10 := cellsAt k0 10
  have f10 := frozAt k0 10
  simp [itC, itZ] at c0 c1 c2 c3 c4 c5 c6 c7 c8 c9 c10 z0 z1 z2 z3 z4 z5 z6 z7 z8 z9 z10
  clear k0 k2
  cases q with
  | false =>
    go_wp2_with fail
    exact bodyPost_ret (v := .tuple #[.agg #[.int .i64 0, .string ⟨#[]⟩, .int .i64 0, .int .i64 0, .int .i64 0, .int .i64 0, .int .i64 0, .int .i64 0, .string ⟨#[]⟩, .int .i64 0, .int .i64 0], .int .i64 1]) (by simp [results, Try.results47, go_sem, z0, z1, z2, z3, z4, z5, z6, z7, z8, z9, z10]) rfl ⟨by rw [fin_r HB.out (by have := Ha.out; omega) Hq.out]; rfl, by repeat' (first | (with_reducible assumption) | (with_reducible refine Below.drew ?_) | (with_reducible refine Below.setCell ?_ (by show w.heap.size ≤ _; simp; try omega) _))⟩
  | true =>
    go_wp2_with fail
    exact bodyPost_ret (v := .tuple #[.agg #[.int .i64 5, .string ⟨#[]⟩, .int .i64 0, .int .i64 0, .int .i64 0, .int .i64 0, .int .i64 lo, .int .i64 hi, .string rk, .int .i64 rn, .int .i64 rv], .int .i64 0]) (by simp [results, Try.results47, go_sem, z0, z1, z2, z3, z4, z5, z6, z7, z8, z9, z10]) rfl ⟨by rw [fin_i HB.out (by have := Ha.out; omega) Hq.out]; rfl, by repeat' (first | (with_reducible assumption) | (with_reducible refine Below.drew ?_) | (with_reducible refine Below.setCell ?_ (by show w.heap.size ≤ _; simp; try omega) _))⟩
end Go.Proofs.Ytgpifbdjcoiilaa
