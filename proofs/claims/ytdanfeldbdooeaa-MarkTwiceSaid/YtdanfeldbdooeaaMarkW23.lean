/-
  WALK of the law MarkDoes; acts as arguments.
-/
import Derived.Test.YtdanfeldbdooeaaMarkW22
import Derived.Test.YtdanfeldbdooeaaMarkW4
set_option linter.unusedVariables false
set_option linter.unusedSimpArgs false
namespace Go.Proofs.Ytdanfeldbdooeaa
open Go.ChangeShapes Go.WideShapes Go.ChangeAt Go.RowKit

structure Ac where
  (what no t : Int)
def Ac.cs (a : Ac) : List Value := [.int .i64 a.what, .int .i64 a.no, .int .i64 a.t]
theorem Ac.cs_len (a : Ac) : a.cs.length = 3 := rfl
def Ac.Wf (a : Ac) : Prop := wfL a.what ∧ wfL a.no ∧ wfL a.t
theorem cellsA : Try.prog.cellsOf 27 = 3 := by kernel_rfl
section
variable {H : Type} {enc : TypeId × Value → H} {W : World} {base : Nat} {spare : Nat → Bool} {held : Bool}
theorem openA {n : Nat} {cs : List Value} {z : DataW H × List MemPlace} (h : DataW.trod enc Try.prog W base spare held n 27 cs = some z) (hl : cs.length = 3) : ∃ x : Ac, cs = x.cs ∧ x.Wf := by
  match cs, hl with
  | [c0, c1, c2], _ =>
    obtain ⟨xs, m, _, _, _, hlen, hg⟩ := DataW.trod_struct Try.underlying27 h
    match xs, hlen with
    | [y0, y1, y2], _ =>
      obtain ⟨a, e1, _, b1⟩ := DataW.trod_int Try.underlying3 (x := y0) (by simpa [cells3] using hg 0 _ rfl)
      obtain ⟨b, e2, _, b2⟩ := DataW.trod_int Try.underlying3 (x := y1) (by simpa [cells3] using hg 1 _ rfl)
      obtain ⟨v, e3, _, b3⟩ := DataW.trod_int Try.underlying2 (x := y2) (by simpa [cells2] using hg 2 _ rfl)
      simp at e1 e2 e3
      exact ⟨⟨a, b, v⟩, by rw [e1, e2, e3]; rfl, i64_bd b1, i64_bd b2, i64_bd b3⟩
set_option maxRecDepth 100000 in
theorem arg_act {r : Reach} {b : Nat} {v : Value} {d : DataW H} {p : List MemPlace} (hok : Value.okWide Try.prog W r b 27 v) (h : DataW.Trod enc Try.prog W base spare held 27 v d p) :
    ∃ x, v = x ∧ ∃ a : Ac, x = .agg #[.int .i64 a.what, .int .i64 a.no, .int .i64 a.t] ∧ a.Wf := by
  obtain ⟨cs, rfl, hsz⟩ := okWide_struct Try.underlying27 hok
  obtain ⟨l⟩ := cs
  match l, hsz.trans cellsA with
  | [c0, c1, c2], _ =>
    obtain ⟨fuel, hf⟩ := h
    obtain ⟨a, he, hw⟩ := openA hf rfl
    refine ⟨_, rfl, a, ?_, hw⟩
    simp [Ac.cs, Value.cells] at he
    rw [he.1, he.2.1, he.2.2]
set_option maxRecDepth 100000 in
theorem arg_acts {r : Reach} {b : Nat} {v : Value} {d : DataW H} {p : List MemPlace} (hok : Value.okWide Try.prog W r b 43 v) (h : DataW.Trod enc Try.prog W base spare held 43 v d p) :
    ∃ x, v = x ∧ ∃ l, Row Ac.cs 3 W x l ∧ (∀ a ∈ l, Ac.Wf a) ∧ l.length ≤ maxLen := by
  obtain ⟨a, n, c, rfl⟩ := okWide_slice Try.underlying43 hok
  obtain ⟨fuel, hf⟩ := h
  obtain ⟨l, r1, w1, l1⟩ := open_rows (c := .slice a n c) Try.underlying43 cellsA (by decide) Ac.cs_len openA (by simpa [Value.cells] using hf)
  exact ⟨_, rfl, l, r1, w1, l1⟩
end
theorem doM_len (li : List Inp) (lh : List Hld) (o what no t : Int) (h1 : li.length ≤ 100) (h2 : lh.length ≤ 100) : (doM li lh o what no t).li.length ≤ 1000000 ∧ (doM li lh o what no t).lh.length ≤ 1000000 := by
  have hz : ∀ e, (mkZ e).li.length ≤ 1000000 ∧ (mkZ e).lh.length ≤ 1000000 := fun e => by unfold mkZ; exact ⟨by simp, by simp⟩
  unfold doM
  split
  · unfold setM
    split
    · exact ⟨by show (li.set _ _).length ≤ _; rw [List.length_set]; omega, by show lh.length ≤ _; omega⟩
    · exact hz _
  split
  · unfold idleM
    split
    · exact ⟨by show (li.set _ _).length ≤ _; rw [List.length_set]; omega, by show lh.length ≤ _; omega⟩
    · exact hz _
  split
  · unfold holdM
    split
    · split
      · rename_i h; exact ⟨by show li.length ≤ _; omega, by show (putH lh no t).length ≤ _; omega⟩
      · exact hz _
    · exact hz _
  · unfold freeM
    split
    · exact ⟨by show li.length ≤ _; omega, by show (remH lh no).length ≤ _; have := remH_le lh no; omega⟩
    · exact hz _
set_option maxRecDepth 100000 in
set_option maxHeartbeats 4000000 in
theorem does_walk (what no t : Int) (v : Value) (li : List Inp) (lh : List Hld) (o : Int) (w : World) (h : MarksAt w v li lh o) :
    Calls Try.prog 3 #[v, .agg #[.int .i64 what, .int .i64 no, .int .i64 t]] w fun e w' => e = .returned (.bool true) ∧ Below w.heap.size w w' := by
  have HM := Lib.hid h
  obtain ⟨vi, vh, rfl, r1, r2, -, -, -, m1, m2⟩ := h
  obtain ⟨A1, q1, rfl, -⟩ := r1
  obtain ⟨A2, q2, rfl, -⟩ := r2
  unfold maxLen at m1 m2
  by_cases l1 : li.length ≤ 100
  rotate_left
  · obtain ⟨n, hn⟩ : ∃ n, li.length = n := ⟨_, rfl⟩
    rw [hn] at l1 m1 ⊢
    clear hn HM
    go_enter Try.func3, Try.ntmps3
    go_wp2_with fail
    go_ret
    exact ⟨rfl, bel_alloc (bel_alloc (Below.refl _ _) _) _⟩
  by_cases l2 : lh.length ≤ 100
  rotate_left
  · obtain ⟨n, hn⟩ : ∃ n, lh.length = n := ⟨_, rfl⟩
    obtain ⟨m, hm⟩ : ∃ n, li.length = n := ⟨_, rfl⟩
    rw [hn] at l2 m2 ⊢
    rw [hm] at l1 m1 ⊢
    clear hn hm HM
    go_enter Try.func3, Try.ntmps3
    go_wp2_with fail
    go_ret
    exact ⟨rfl, bel_alloc (bel_alloc (Below.refl _ _) _) _⟩
  have HD := Lib.hid (fun v W (hm : MarksAt W v li lh o) => do_any li lh o what no t v W hm (by omega))
  have HL := Lib.hid (doM_len li lh o what no t l1 l2)
  obtain ⟨R, hR⟩ : ∃ R, doM li lh o what no t = R := ⟨_, rfl⟩
  rw [hR] at HD HL
  obtain ⟨n, hn⟩ : ∃ n, li.length = n := ⟨_, rfl⟩
  obtain ⟨m, hm⟩ : ∃ n, lh.length = n := ⟨_, rfl⟩
  rw [hn] at l1 m1 HM ⊢
  rw [hm] at l2 m2 HM ⊢
  clear hn hm hR
  go_enter Try.func3, Try.ntmps3
  go_upto_region 3 with fail
  obtain ⟨W1, hW2⟩ : ∃ X, X = ((w).alloc (.cells #[.slice A1 n q1, .slice A2 m q2, .int .i64 o] 25)).alloc (.cells #[.int .i64 what, .int .i64 no, .int .i64 t] 27) := ⟨_, rfl⟩
  rw [← hW2]
  have hb3 : Below w.heap.size w W1 := by rw [hW2]; exact bel_alloc (bel_alloc (Below.refl _ _) _) _
  have Ns := Lib.hid (show W1.heap[w.heap.size]? = some (.cells #[.slice A1 n q1, .slice A2 m q2, .int .i64 o] 25 (0, 0)) by rw [hW2]; exact heap_below (heap_at (w) _ (w.heap.size) (by simp)) (bel_alloc (Below.refl _ _) _))
  have Na := Lib.hid (show W1.heap[w.heap.size + 1]? = some (.cells #[.int .i64 what, .int .i64 no, .int .i64 t] 27 (0, 0)) by rw [hW2]; exact heap_at ((w).alloc (.cells #[.slice A1 n q1, .slice A2 m q2, .int .i64 o] 25)) _ (w.heap.size + 1) (by simp))
  clear hW2
  have BB4 := Lib.hid hb3
  clear hb3
  have Bls := Ns
  clear Ns
  have Bla := Na
  clear Na
  have zs := blk_lt Bls.out
  have xs0 := cellsAt Bls.out 0
  have xs1 := cellsAt Bls.out 1
  have xs2 := cellsAt Bls.out 2
  have fs := frozAt Bls.out
  simp at xs0 xs1 xs2
  have za := blk_lt Bla.out
  have xa0 := cellsAt Bla.out 0
  have xa1 := cellsAt Bla.out 1
  have xa2 := cellsAt Bla.out 2
  have fa := frozAt Bla.out
  simp at xa0 xa1 xa2
  go_wp2_with fail
  refine (HD.out _ _ (HM.out.below BB4.out)).mono ?_
  rintro e w5 ⟨vi, vh, ui, uh, rfl, hri, hrh, hsi, hsh, hb6⟩
  clear zs fs xs0 xs1 xs2 za fa xa0 xa1 xa2
  have Z := Lib.hid (heap_below Bls.out hb6)
  clear Bls
  have Bls := Z
  clear Z
  have Z := Lib.hid (heap_below Bla.out hb6)
  clear Bla
  have Bla := Z
  clear Z
  have BB7 := Lib.hid (bThen BB4.out hb6)
  clear hb6
  have RI := Lib.hid hri
  have RH := Lib.hid hrh
  have SI := Lib.hid hsi
  have SH := Lib.hid hsh
  obtain ⟨B1, d1, rfl, -⟩ := hri
  obtain ⟨B2, d2, rfl, -⟩ := hrh
  obtain ⟨C1, k1, rfl, -⟩ := hsi
  obtain ⟨C2, k2, rfl, -⟩ := hsh
  go_upto_region 4 with fail
  obtain ⟨W8, hW9⟩ : ∃ X, X = ((w5).alloc (.cells #[.slice B1 R.li.length d1, .slice B2 R.lh.length d2, .int .i64 R.o] 25)).alloc (.cells #[.slice C1 R.li.length k1, .slice C2 R.lh.length k2, .int .i64 R.o] 25) := ⟨_, rfl⟩
  rw [← hW9]
  have hb10 : Below w5.heap.size w5 W8 := by rw [hW9]; exact bel_alloc (bel_alloc (Below.refl _ _) _) _
  have Nx := Lib.hid (show W8.heap[w5.heap.size]? = some (.cells #[.slice B1 R.li.length d1, .slice B2 R.lh.length d2, .int .i64 R.o] 25 (0, 0)) by rw [hW9]; exact heap_below (heap_at (w5) _ (w5.heap.size) (by simp)) (bel_alloc (Below.refl _ _) _))
  have Ny := Lib.hid (show W8.heap[w5.heap.size + 1]? = some (.cells #[.slice C1 R.li.length k1, .slice C2 R.lh.length k2, .int .i64 R.o] 25 (0, 0)) by rw [hW9]; exact heap_at ((w5).alloc (.cells #[.slice B1 R.li.length d1, .slice B2 R.lh.length d2, .int .i64 R.o] 25)) _ (w5.heap.size + 1) (by simp))
  clear hW9
  have Z := Lib.hid (heap_below Bls.out hb10)
  clear Bls
  have Bls := Z
  clear Z
  have Z := Lib.hid (heap_below Bla.out hb10)
  clear Bla
  have Bla := Z
  clear Z
  have Z := Lib.hid (Row.below RI.out hb10)
  clear RI
  have RI := Z
  clear Z
  have Z := Lib.hid (Row.below RH.out hb10)
  clear RH
  have RH := Z
  clear Z
  have Z := Lib.hid (Row.below SI.out hb10)
  clear SI
  have SI := Z
  clear Z
  have Z := Lib.hid (Row.below SH.out hb10)
  clear SH
  have SH := Z
  clear Z
  have BB11 := Lib.hid (bThen BB7.out hb10)
  clear hb10
  have Blx := Nx
  clear Nx
  have Bly := Ny
  clear Ny
  go_wp2_with fail
  refine (malive_any _).mono ?_
  rintro e w12 ⟨rfl, hb13⟩
  have Z := Lib.hid (heap_below Bls.out hb13)
  clear Bls
  have Bls := Z
  clear Z
  have Z := Lib.hid (heap_below Bla.out hb13)
  clear Bla
  have Bla := Z
  clear Z
  have Z := Lib.hid (heap_below Blx.out hb13)
  clear Blx
  have Blx := Z
  clear Z
  have Z := Lib.hid (heap_below Bly.out hb13)
  clear Bly
  have Bly := Z
  clear Z
  have Z := Lib.hid (Row.below RI.out hb13)
  clear RI
  have RI := Z
  clear Z
  have Z := Lib.hid (Row.below RH.out hb13)
  clear RH
  have RH := Z
  clear Z
  have Z := Lib.hid (Row.below SI.out hb13)
  clear SI
  have SI := Z
  clear Z
  have Z := Lib.hid (Row.below SH.out hb13)
  clear SH
  have SH := Z
  clear Z
  have BB14 := Lib.hid (bThen BB11.out hb13)
  clear hb13
  have zx := blk_lt Blx.out
  have xx0 := cellsAt Blx.out 0
  have xx1 := cellsAt Blx.out 1
  have xx2 := cellsAt Blx.out 2
  have fx := frozAt Blx.out
  simp at xx0 xx1 xx2
  have zy := blk_lt Bly.out
  have xy0 := cellsAt Bly.out 0
  have xy1 := cellsAt Bly.out 1
  have xy2 := cellsAt Bly.out 2
  have fy := frozAt Bly.out
  simp at xy0 xy1 xy2
  go_wp2_with fail
  refine (likeM_same R.li R.lh R.o _ _ _ _ _ RI.out RH.out SI.out SH.out HL.out.1 HL.out.2).mono ?_
  rintro e w15 ⟨rfl, hb16⟩
  clear zx fx xx0 xx1 xx2 zy fy xy0 xy1 xy2
  have Z := Lib.hid (heap_below Bls.out hb16)
  clear Bls
  have Bls := Z
  clear Z
  have Z := Lib.hid (heap_below Bla.out hb16)
  clear Bla
  have Bla := Z
  clear Z
  have Z := Lib.hid (heap_below Blx.out hb16)
  clear Blx
  have Blx := Z
  clear Z
  have Z := Lib.hid (heap_below Bly.out hb16)
  clear Bly
  have Bly := Z
  clear Z
  have Z := Lib.hid (Row.below RI.out hb16)
  clear RI
  have RI := Z
  clear Z
  have Z := Lib.hid (Row.below RH.out hb16)
  clear RH
  have RH := Z
  clear Z
  have Z := Lib.hid (Row.below SI.out hb16)
  clear SI
  have SI := Z
  clear Z
  have Z := Lib.hid (Row.below SH.out hb16)
  clear SH
  have SH := Z
  clear Z
  have BB17 := Lib.hid (bThen BB14.out hb16)
  clear hb16
  go_wp2_with fail
  go_ret
  exact ⟨rfl, BB17.out⟩
end Go.Proofs.Ytdanfeldbdooeaa
