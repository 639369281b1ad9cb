/-
  WALKS of layer 10: marks; time, the predicate, IndexFunc, Right on both sides.
-/
import Derived.Test.YtdanfeldbdooeaaRowsArg
set_option linter.unusedVariables false
set_option linter.unusedSimpArgs false
namespace Go.Proofs.Ytdanfeldbdooeaa
open Go.ChangeShapes Go.WideShapes Go.ChangeAt Go.RowKit Go.Deep

structure Inp where
  mark : Int
  idle : Bool
structure Hld where
  no : Int
  at_ : Int
def Inp.cs (i : Inp) : List Value := [.int .i64 i.mark, .bool i.idle]
def Hld.cs (h : Hld) : List Value := [.int .i64 h.no, .int .i64 h.at_]
theorem Inp.cs_len (c : Inp) : c.cs.length = 2 := rfl
theorem Hld.cs_len (c : Hld) : c.cs.length = 2 := rfl
instance : Inhabited Inp := ⟨⟨0, false⟩⟩
instance : Inhabited Hld := ⟨⟨0, 0⟩⟩
def Inp.Wf (i : Inp) : Prop := wfL i.mark
def Hld.Wf (h : Hld) : Prop := wfL h.no ∧ wfL h.at_
set_option maxRecDepth 100000 in
def timeB (t : Int) : Bool := decide (0 ≤ t) && decide (t ≤ 1099511627776)
def holdAt (l : List Hld) (j : Nat) : Bool := decide (0 ≤ l[j]!.no) && (timeB l[j]!.at_ && (decide (j = 0) || decide (l[j - 1]!.no < l[j]!.no)))
def holdsB (l : List Hld) : Bool := (List.range l.length).all (holdAt l)
def inAt (l : List Inp) (j : Nat) : Bool := timeB l[j]!.mark
def inputsB (l : List Inp) : Bool := (List.range l.length).all (inAt l)
def rightM (li : List Inp) (lh : List Hld) (o : Int) : Bool := (decide (1 ≤ li.length) && (decide (li.length ≤ 8) && (decide (lh.length ≤ 32) && timeB o))) && (holdsB lh && inputsB li)
theorem all_range_succ (p : Nat → Bool) (k : Nat) : (List.range (k + 1)).all p = ((List.range k).all p && p k) := by rw [List.range_succ, List.all_append]; simp
theorem all_range_not (p : Nat → Bool) {k n : Nat} (hk : k < n) (h : p k = false) : (List.range n).all p = false := by
  rw [List.all_eq_false]
  exact ⟨k, List.mem_range.2 hk, by simp [h]⟩
section
variable {H : Type} {enc : TypeId × Value → H} {W : World} {base : Nat} {spare : Nat → Bool} {held : Bool}
theorem cells3 : Try.prog.cellsOf 3 = 1 := by kernel_rfl
theorem cells2 : Try.prog.cellsOf 2 = 1 := by kernel_rfl
theorem cells4 : Try.prog.cellsOf 4 = 1 := by kernel_rfl
theorem cells9 : Try.prog.cellsOf 9 = 1 := by kernel_rfl
theorem cellsI : Try.prog.cellsOf 45 = 2 := by kernel_rfl
theorem cellsH : Try.prog.cellsOf 47 = 2 := by kernel_rfl
theorem cellsLI : Try.prog.cellsOf 22 = 1 := by kernel_rfl
theorem cellsLH : Try.prog.cellsOf 23 = 1 := by kernel_rfl
theorem cellsM : Try.prog.cellsOf 25 = 3 := by kernel_rfl
theorem openI {n : Nat} {cs : List Value} {z : DataW H × List MemPlace} (h : DataW.trod enc Try.prog W base spare held n 45 cs = some z) (hl : cs.length = 2) : ∃ x : Inp, cs = x.cs ∧ x.Wf := by
  match cs, hl with
  | [c0, c1], _ =>
    obtain ⟨xs, m, _, _, _, hlen, hg⟩ := DataW.trod_struct Try.underlying45 h
    match xs, hlen with
    | [y0, y1], _ =>
      obtain ⟨a, e1, _, b1⟩ := DataW.trod_int Try.underlying2 (x := y0) (by simpa [cells2] using hg 0 _ rfl)
      obtain ⟨v, e2, _⟩ := DataW.trod_bool Try.underlying4 (x := y1) (by simpa [cells4] using hg 1 _ rfl)
      simp at e1 e2
      exact ⟨⟨a, v⟩, by rw [e1, e2]; rfl, i64_bd b1⟩
theorem openH {n : Nat} {cs : List Value} {z : DataW H × List MemPlace} (h : DataW.trod enc Try.prog W base spare held n 47 cs = some z) (hl : cs.length = 2) : ∃ x : Hld, cs = x.cs ∧ x.Wf := by
  match cs, hl with
  | [c0, c1], _ =>
    obtain ⟨xs, m, _, _, _, hlen, hg⟩ := DataW.trod_struct Try.underlying47 h
    match xs, hlen with
    | [y0, y1], _ =>
      obtain ⟨a, e1, _, b1⟩ := DataW.trod_int Try.underlying3 (x := y0) (by simpa [cells3] using hg 0 _ rfl)
      obtain ⟨v, e2, _, b2⟩ := DataW.trod_int Try.underlying2 (x := y1) (by simpa [cells2] using hg 1 _ rfl)
      simp at e1 e2
      exact ⟨⟨a, v⟩, by rw [e1, e2]; rfl, i64_bd b1, i64_bd b2⟩
/-- Marks: two rows and a time. -/
def MarksAt (W : World) (v : Value) (li : List Inp) (lh : List Hld) (o : Int) : Prop :=
  ∃ vi vh, v = .agg #[vi, vh, .int .i64 o] ∧ Row Inp.cs 2 W vi li ∧ Row Hld.cs 2 W vh lh ∧ (∀ x ∈ li, x.Wf) ∧ (∀ x ∈ lh, x.Wf) ∧ wfL o ∧ li.length ≤ maxLen ∧ lh.length ≤ maxLen
theorem MarksAt.below {W W' : World} {v : Value} {li : List Inp} {lh : List Hld} {o : Int} (h : MarksAt W v li lh o) (hb : Below W.heap.size W W') : MarksAt W' v li lh o := by
  obtain ⟨vi, vh, h0, h1, h2, h3⟩ := h
  exact ⟨vi, vh, h0, h1.below hb, h2.below hb, h3⟩
set_option maxRecDepth 100000 in
theorem arg_marks {r : Reach} {b : Nat} {v : Value} {d : DataW H} {p : List MemPlace} (hok : Value.okWide Try.prog W r b 25 v) (h : DataW.Trod enc Try.prog W base spare held 25 v d p) :
    ∃ x, v = x ∧ ∃ li lh o, MarksAt W x li lh o := by
  obtain ⟨cs, rfl, hsz⟩ := okWide_struct Try.underlying25 hok
  obtain ⟨l⟩ := cs
  match l, hsz.trans cellsM with
  | [c0, c1, c2], _ =>
    obtain ⟨fuel, hf⟩ := h
    obtain ⟨xs, m, _, _, _, hlen, hg⟩ := DataW.trod_struct Try.underlying25 hf
    match xs, hlen with
    | [y0, y1, y2], _ =>
      obtain ⟨li, r1, w1, l1⟩ := open_rows (c := c0) (y := y0) Try.underlying22 cellsI (by decide) Inp.cs_len openI (by simpa [Value.cells, cellsLI] using hg 0 _ rfl)
      obtain ⟨lh, r2, w2, l2⟩ := open_rows (c := c1) (y := y1) Try.underlying23 cellsH (by decide) Hld.cs_len openH (by simpa [Value.cells, cellsLH] using hg 1 _ rfl)
      obtain ⟨o, e2, _, b2⟩ := DataW.trod_int Try.underlying2 (x := y2) (by simpa [Value.cells, cells2] using hg 2 _ rfl)
      simp at e2
      subst e2
      exact ⟨_, rfl, li, lh, o, c0, c1, rfl, r1, r2, w1, w2, i64_bd b2, l1, l2⟩
end
set_option maxRecDepth 100000 in
theorem time_any (n : Int) (w : World) (b : Bool) (hb : timeB n = b) : Calls Try.prog 55 #[.int .i64 n] w fun e w' => e = .returned (.bool b) ∧ w = w' := by
  unfold timeB at hb
  by_cases h0 : 0 ≤ n
  · rw [decide_eq_true h0, Bool.true_and] at hb
    subst hb
    go_enter Try.func55, Try.ntmps55
    go_wp2_with fail
    go_ret
    exact ⟨rfl, rfl⟩
  · rw [decide_eq_false h0, Bool.false_and] at hb
    subst hb
    go_enter Try.func55, Try.ntmps55
    go_wp2_with fail
    go_ret
    exact ⟨rfl, rfl⟩
set_option maxRecDepth 100000 in
theorem rtime_any (n : Int) (w : World) (b : Bool) (hb : timeB n = b) : Calls Try.prog 58 #[.int .i64 n] w fun e w' => e = .returned (.bool b) ∧ w = w' := by
  unfold timeB at hb
  by_cases h0 : 0 ≤ n
  · rw [decide_eq_true h0, Bool.true_and] at hb
    subst hb
    go_enter Try.func58, Try.ntmps58
    go_wp2_with fail
    go_ret
    exact ⟨rfl, rfl⟩
  · rw [decide_eq_false h0, Bool.false_and] at hb
    subst hb
    go_enter Try.func58, Try.ntmps58
    go_wp2_with fail
    go_ret
    exact ⟨rfl, rfl⟩
theorem pred_any (m : Int) (i b : Bool) (w : World) (hb : timeB m = b) : Calls Try.prog 57 #[.agg #[.int .i64 m, .bool i]] w fun e w' => e = .returned (.bool (!b)) ∧ Below w.heap.size w w' := by
  have HT := Lib.hid (fun W => time_any m W b hb)
  clear hb
  go_enter Try.func57, Try.ntmps57
  go_wp2_with fail
  refine (HT.out _).mono ?_
  rintro e w1 ⟨rfl, rfl⟩
  go_wp2_with fail
  go_ret
  exact ⟨rfl, bel_alloc (Below.refl _ _) _⟩
/-- What IndexFunc tells of inputs one of whose times may not be. -/
def IdxOf (li : List Inp) (w : World) (e : Ending) (w' : World) : Prop := ∃ r : Int, e = .returned (.int .i64 r) ∧ decide (0 ≤ r) = (!inputsB li) ∧ Below w.heap.size w w'
def IdxRel (li : List Inp) (w : World) (i : Value) (wr : World) : Prop := ∃ k : Nat, k ≤ li.length ∧ i = .int .i64 k ∧ (List.range k).all (inAt li) = true ∧ Below w.heap.size w wr
set_option maxHeartbeats 1000000 in
theorem index_any (li : List Inp) (v : Value) (w : World) (hv : Row Inp.cs 2 w v li) (hl : li.length ≤ 1000000) :
    Calls Try.prog 83 #[v, .func (.func 57) #[] #[]] w (IdxOf li w) := by
  have HV := Lib.hid hv
  obtain ⟨A, c, rfl, hc, hA⟩ := hv
  have HA := Lib.hid hA
  clear hA
  obtain ⟨n, hn⟩ : ∃ n, li.length = n := ⟨_, rfl⟩
  rw [hn] at hl hc HV ⊢
  have Hn := Lib.hid hn
  clear hn
  go_enter Try.func83, Try.ntmps83
  go_wp2_with fail
  go_loopw [8] (fun i wr => IdxRel li w i wr) (fun i _ => n - (intOf i).toNat)
  case atStart => exact ⟨0, Nat.zero_le _, rfl, rfl, Below.refl _ _⟩
  case round =>
    obtain ⟨k, hk, rfl, hall, hbel⟩ := hrel
    rw [Hn.out] at hk
    have HB := Lib.hid hbel
    have HL := Lib.hid hall
    clear hbel hall
    by_cases hlt : k < n
    · obtain ⟨x, hi⟩ : ∃ x, li[k]? = some x := ⟨_, List.getElem?_eq_getElem (by rw [Hn.out]; exact hlt)⟩
      obtain ⟨b, o, rfl, hb, hX⟩ := HA.out (by rw [Hn.out]; omega)
      have c0 := (HB.out.cell (p := ⟨b, o + k * 2 + 0, none⟩) hb).trans (hX k x 0 _ hi rfl)
      have c1 := (HB.out.cell (p := ⟨b, o + k * 2 + 1, none⟩) hb).trans (hX k x 1 _ hi rfl)
      have hxk : inAt li k = timeB x.mark := by unfold inAt; rw [List.getElem!_eq_getElem?_getD, hi]; rfl
      clear hX
      obtain ⟨xm, xi⟩ := x
      simp only [Nat.add_zero] at c0 c1 hxk
      obtain ⟨q, hq⟩ : ∃ q, timeB xm = q := ⟨_, rfl⟩
      have HP := Lib.hid (fun W => pred_any xm xi q W hq)
      rw [hq] at hxk
      have HX := Lib.hid hxk
      have HI := Lib.hid hi
      clear hxk hq hi
      go_wp2_with fail
      refine (HP.out _).mono ?_
      rintro e w2 ⟨rfl, hb2⟩
      have HB2 := Lib.hid (bThen HB.out hb2)
      clear hb2 HB c0 c1
      cases q with
      | true =>
        go_wp2_with fail
        go_roundw
        case rel => exact ⟨k + 1, by rw [Hn.out]; omega, by go_num, by rw [all_range_succ, HL.out, HX.out]; rfl, HB2.out⟩
        case measure => simp [intOf]; omega
      | false =>
        go_wp2_with fail
        go_ret
        exact ⟨_, rfl, by unfold inputsB; rw [all_range_not (inAt li) (by rw [Hn.out]; exact hlt) HX.out]; simp, HB2.out⟩
    · have hkn : k = n := by omega
      subst hkn
      go_wp2_with fail
      go_ret
      exact ⟨_, rfl, by unfold inputsB; rw [Hn.out, HL.out]; decide, HB.out⟩
end Go.Proofs.Ytdanfeldbdooeaa
