/-
  WALKS: the texts SinkW1, SinkW2, SinkW3, SinkP, SinkW4, -SinkW5, -SinkW6, SinkW7, SinkW8, SinkW9, but for what speaks of functions that are not here (progonly.py).
-/
import Derived.Test.YtlboehpgpbchhaaGreatItT1
import Derived.Laws.MakeOwn
import Derived.Deep.RegionLaw
set_option linter.unusedVariables false
set_option linter.unusedSimpArgs false
namespace Go.Proofs.YtlboehpgpbchhaaGreat.Itm
open Go.ChangeShapes Go.WideShapes Go.ChangeAt Go.RowKit Go.Deep
structure Res where
  lo : Int
  hi : Int
  k : ByteArray
  n : Int
  v : Int
/-- A stage: its number, its row as it stands in memory, and the results that this reads as. -/
structure Stg where
  n : Int
  row : Value
  l : List Res
def Res.cs (r : Res) : List Value := [.int .i64 r.lo, .int .i64 r.hi, .string r.k, .int .i64 r.n, .int .i64 r.v]
def Res.val (r : Res) : Value := .agg #[.int .i64 r.lo, .int .i64 r.hi, .string r.k, .int .i64 r.n, .int .i64 r.v]
def Stg.cs (s : Stg) : List Value := [.int .i64 s.n, s.row]
theorem Res.cs_len (r : Res) : r.cs.length = 5 := rfl
theorem Stg.cs_len (s : Stg) : s.cs.length = 2 := rfl
instance : Inhabited Res := ⟨⟨0, 0, ⟨#[]⟩, 0, 0⟩⟩
instance : Inhabited Stg := ⟨⟨0, .slice none 0 0, []⟩⟩
def Res.Wf (r : Res) : Prop := wfL r.lo ∧ wfL r.hi ∧ r.k.size ≤ maxLen ∧ wfL r.n ∧ wfL r.v
/-- A row of results: read, bounded. -/
def RowR (W : World) (v : Value) (l : List Res) : Prop := Row Res.cs 5 W v l ∧ (∀ x ∈ l, x.Wf) ∧ l.length ≤ maxLen
def Stg.At (W : World) (s : Stg) : Prop := wfL s.n ∧ RowR W s.row s.l
def SinkAt (W : World) (v : Value) (op : List Res) (st : List Stg) (last : Int) (out : List Res) : Prop :=
  ∃ vo vs vu, v = .agg #[vo, vs, .int .i64 last, vu] ∧ RowR W vo op ∧ (Row Stg.cs 2 W vs st ∧ (∀ x ∈ st, x.At W) ∧ st.length ≤ maxLen) ∧ wfL last ∧ RowR W vu out
theorem RowR.below {W W' : World} {v : Value} {l : List Res} (h : RowR W v l) (hb : Below W.heap.size W W') : RowR W' v l := ⟨h.1.below hb, h.2⟩
theorem Stg.At.below {W W' : World} {s : Stg} (h : s.At W) (hb : Below W.heap.size W W') : s.At W' := ⟨h.1, h.2.below hb⟩
theorem SinkAt.below {W W' : World} {v : Value} {op out : List Res} {st : List Stg} {last : Int} (h : SinkAt W v op st last out) (hb : Below W.heap.size W W') : SinkAt W' v op st last out := by
  obtain ⟨vo, vs, vu, e, h1, ⟨h2, h3, h4⟩, h5, h6⟩ := h
  exact ⟨vo, vs, vu, e, h1.below hb, ⟨h2.below hb, fun x hx => (h3 x hx).below hb, h4⟩, h5, h6.below hb⟩
section
variable {H : Type} {enc : TypeId × Value → H} {W : World} {base : Nat} {spare : Nat → Bool} {held : Bool}
theorem cellsS : Tryz.prog.cellsOf 145 = 2 := by kernel_rfl
theorem cellsLR : Tryz.prog.cellsOf 25 = 1 := by kernel_rfl
theorem cellsLS : Tryz.prog.cellsOf 31 = 1 := by kernel_rfl
theorem cellsK : Tryz.prog.cellsOf 33 = 4 := by kernel_rfl
theorem openR {n : Nat} {cs : List Value} {z : DataW H × List MemPlace} (h : DataW.trod enc Tryz.prog W base spare held n 37 cs = some z) (hl : cs.length = 5) : ∃ x : Res, cs = x.cs ∧ x.Wf := by
  match cs, hl with
  | [c0, c1, c2, c3, c4], _ =>
    obtain ⟨lo, hi, k, n, v, rfl, rfl, rfl, rfl, rfl, b0, b1, b2, b3, b4⟩ := open55 h
    exact ⟨⟨lo, hi, k, n, v⟩, rfl, b0, b1, b2, b3, b4⟩
theorem open_results {n : Nat} {c : Value} {z : DataW H × List MemPlace} (h : DataW.trod enc Tryz.prog W base spare held n 25 [c] = some z) : ∃ l, RowR W c l := by
  obtain ⟨l, h1, h2, h3⟩ := open_rows (c := c) (y := z) Tryz.underlying25 cells55 (by decide) Res.cs_len openR h
  exact ⟨l, h1, h2, h3⟩
theorem openS {n : Nat} {cs : List Value} {z : DataW H × List MemPlace} (h : DataW.trod enc Tryz.prog W base spare held n 145 cs = some z) (hl : cs.length = 2) : ∃ x : Stg, cs = x.cs ∧ x.At W := by
  match cs, hl with
  | [c0, c1], _ =>
    obtain ⟨xs, m, _, _, _, hlen, hg⟩ := DataW.trod_struct Tryz.underlying145 h
    match xs, hlen with
    | [y0, y1], _ =>
      obtain ⟨a, e1, _, b1⟩ := DataW.trod_int Tryz.underlying3 (x := y0) (by simpa [cells3] using hg 0 _ rfl)
      obtain ⟨l, hr⟩ := open_results (enc := enc) (W := W) (base := base) (spare := spare) (held := held) (n := m) (c := c1) (z := y1) (by simpa [cellsLR] using hg 1 _ rfl)
      simp at e1
      exact ⟨⟨a, c1, l⟩, by rw [e1]; rfl, i64_bd b1, hr⟩
set_option maxRecDepth 100000 in
theorem arg_sink {r : Reach} {b : Nat} {v : Value} {d : DataW H} {p : List MemPlace} (hok : Value.okWide Tryz.prog W r b 33 v) (h : DataW.Trod enc Tryz.prog W base spare held 33 v d p) :
    ∃ x, v = x ∧ ∃ op st last out, SinkAt W x op st last out := by
  obtain ⟨cs, rfl, hsz⟩ := okWide_struct Tryz.underlying33 hok
  obtain ⟨l⟩ := cs
  match l, hsz.trans cellsK with
  | [c0, c1, c2, c3], _ =>
    obtain ⟨fuel, hf⟩ := h
    obtain ⟨xs, m, _, _, _, hlen, hg⟩ := DataW.trod_struct Tryz.underlying33 hf
    match xs, hlen with
    | [y0, y1, y2, y3], _ =>
      obtain ⟨op, r1⟩ := open_results (enc := enc) (W := W) (base := base) (spare := spare) (held := held) (n := m) (c := c0) (z := y0) (by simpa [Value.cells, cellsLR] using hg 0 _ rfl)
      obtain ⟨st, r2, w2, l2⟩ := open_rows (c := c1) (y := y1) Tryz.underlying31 cellsS (by decide) Stg.cs_len openS (by simpa [Value.cells, cellsLS] using hg 1 _ rfl)
      obtain ⟨o, e2, _, b2⟩ := DataW.trod_int Tryz.underlying3 (x := y2) (by simpa [Value.cells, cells3] using hg 2 _ rfl)
      obtain ⟨out, r3⟩ := open_results (enc := enc) (W := W) (base := base) (spare := spare) (held := held) (n := m) (c := c3) (z := y3) (by simpa [Value.cells, cellsLR] using hg 3 _ rfl)
      simp at e2
      subst e2
      exact ⟨_, rfl, op, st, o, out, c0, c1, c3, rfl, r1, ⟨r2, w2, l2⟩, i64_bd b2, r3⟩
set_option maxRecDepth 100000 in
theorem arg_result {r : Reach} {b : Nat} {v : Value} {d : DataW H} {p : List MemPlace} (hok : Value.okWide Tryz.prog W r b 37 v) (h : DataW.Trod enc Tryz.prog W base spare held 37 v d p) :
    ∃ x, v = x ∧ ∃ y : Res, x = y.val ∧ y.Wf := by
  obtain ⟨cs, rfl, hsz⟩ := okWide_struct Tryz.underlying37 hok
  obtain ⟨l⟩ := cs
  obtain ⟨fuel, hf⟩ := h
  obtain ⟨x, e, hx⟩ := openR hf (hsz.trans cells55)
  exact ⟨_, rfl, x, by rw [show l = x.cs from e]; rfl, hx⟩
end
/-- Where a row of an answer lies: it is the one that was there, or none, or one in new memory. -/
def SrcV (w w' : World) (u v : Value) : Prop := v = u ∨ v = .slice none 0 0 ∨ ∃ g c n, v = .slice (some ⟨g, 0, none⟩) n c ∧ w.heap.size ≤ g ∧ g < w'.heap.size
def LocK (w w' : World) (v v' : Value) : Prop := ∃ vo vs l vu vo' vs' l' vu', v = .agg #[vo, vs, l, vu] ∧ v' = .agg #[vo', vs', l', vu'] ∧ SrcV w w' vo vo' ∧ SrcV w w' vs vs' ∧ SrcV w w' vu vu'
theorem src_own {w w' : World} {base : Nat} {e : TypeId} {sz n : Nat} {u v : Value} {xs : List Value} (h : w'.ownsRow base e sz v n xs) (hb : w.heap.size ≤ base) : SrcV w w' u v := by
  rcases h.2 with ⟨hv, -⟩ | ⟨g, cap, cur, hv, h2, h3, -⟩
  · exact .inr (.inl hv)
  · exact .inr (.inr ⟨g, cap, n, hv, Nat.le_trans hb h2, blk_lt h3⟩)
open Go.RowKit
def mayB (r : Res) : Bool := resB r.lo r.hi r.k r.n
def resAt (l : List Res) (j : Nat) : Bool := mayB l[j]!
def allB (l : List Res) : Bool := (List.range l.length).all (resAt l)
theorem all_range_succ (p : Nat → Bool) (k : Nat) : (List.range (k + 1)).all p = ((List.range k).all p && p k) := by rw [List.range_succ, List.all_append]; simp
theorem all_range_not (p : Nat → Bool) {k n : Nat} (hk : k < n) (h : p k = false) : (List.range n).all p = false := by
  rw [List.all_eq_false]
  exact ⟨k, List.mem_range.2 hk, by simp [h]⟩
theorem right_res (lo hi : Int) (k : ByteArray) (n v : Int) (b : Bool) (hb : resB lo hi k n = b) : rightI ⟨5, ⟨#[]⟩, 0, 0, 0, 0, lo, hi, k, n, v⟩ = b := by
  rw [← hb]
  simp only [rightI, bareB, bareI, sameI, itZ]
  generalize resB lo hi k n = q
  cases q <;> simp
set_option maxRecDepth 100000 in
theorem may_any (r : Res) (w : World) (b : Bool) (hb : mayB r = b) : Calls Tryz.prog 32 #[r.val] w fun e w' => e = .returned (.bool b) ∧ Below w.heap.size w w' := by
  obtain ⟨lo, hi, k, n, v⟩ := r
  have HR := Lib.hid (fun W => right_any _ W b (right_res lo hi k n v b hb))
  clear hb
  unfold Res.val
  go_enter Tryz.func32, Tryz.ntmps32
  go_wp2_with fail
  refine (HR.out _).mono ?_
  rintro e w2 ⟨rfl, hb2⟩
  have HB2 := Lib.hid (belA (Below.refl _ _) hb2)
  clear hb2
  go_wp2_with fail
  go_ret
  exact ⟨rfl, HB2.out⟩
set_option maxRecDepth 100000 in
theorem pred_any (r : Res) (w : World) (b : Bool) (hb : mayB r = b) : Calls Tryz.prog 102 #[r.val] w fun e w' => e = .returned (.bool (!b)) ∧ Below w.heap.size w w' := by
  obtain ⟨lo, hi, k, n, v⟩ := r
  have HR := Lib.hid (fun W => may_any _ W b hb)
  clear hb
  unfold Res.val at HR ⊢
  go_enter Tryz.func102, Tryz.ntmps102
  go_wp2_with fail
  refine (HR.out _).mono ?_
  rintro e w2 ⟨rfl, hb2⟩
  have HB2 := Lib.hid (belA (Below.refl _ _) hb2)
  clear hb2
  go_wp2_with fail
  go_ret
  exact ⟨rfl, HB2.out⟩
/-- What IndexFunc tells of results one of which may not be. -/
def IdxOf (l : List Res) (w : World) (e : Ending) (w' : World) : Prop := ∃ r : Int, e = .returned (.int .i64 r) ∧ decide (0 ≤ r) = (!allB l) ∧ Below w.heap.size w w'
def IdxRel (l : List Res) (w : World) (i : Value) (wr : World) : Prop := ∃ k : Nat, k ≤ l.length ∧ i = .int .i64 k ∧ (List.range k).all (resAt l) = true ∧ Below w.heap.size w wr
set_option maxHeartbeats 1000000 in
theorem index_any (li : List Res) (v : Value) (w : World) (hv : Row Res.cs 5 w v li) (hl : li.length ≤ 1000000) :
    Calls Tryz.prog 125 #[v, .func (.func 102) #[] #[]] w (IdxOf li w) := by
  have HV := Lib.hid hv
  obtain ⟨A, c, rfl, hc, hA⟩ := hv
  have HA := Lib.hid hA
  clear hA
  obtain ⟨n, hn⟩ : ∃ n, li.length = n := ⟨_, rfl⟩
  rw [hn] at hl hc HV ⊢
  have Hn := Lib.hid hn
  clear hn
  go_enter Tryz.func125, Tryz.ntmps125
  go_wp2_with fail
  go_loopw [8] (fun i wr => IdxRel li w i wr) (fun i _ => n - (intOf i).toNat)
  case atStart => exact ⟨0, Nat.zero_le _, rfl, rfl, Below.refl _ _⟩
  case round =>
    obtain ⟨k, hk, rfl, hall, hbel⟩ := hrel
    rw [Hn.out] at hk
    have HB := Lib.hid hbel
    have HL := Lib.hid hall
    clear hbel hall
    by_cases hlt : k < n
    · obtain ⟨x, hi⟩ : ∃ x, li[k]? = some x := ⟨_, List.getElem?_eq_getElem (by rw [Hn.out]; exact hlt)⟩
      obtain ⟨b, o, rfl, hb, hX⟩ := HA.out (by rw [Hn.out]; omega)
      have c0 := (HB.out.cell (p := ⟨b, o + k * 5 + 0, none⟩) hb).trans (hX k x 0 _ hi rfl)
      have c1 := (HB.out.cell (p := ⟨b, o + k * 5 + 1, none⟩) hb).trans (hX k x 1 _ hi rfl)
      have c2 := (HB.out.cell (p := ⟨b, o + k * 5 + 2, none⟩) hb).trans (hX k x 2 _ hi rfl)
      have c3 := (HB.out.cell (p := ⟨b, o + k * 5 + 3, none⟩) hb).trans (hX k x 3 _ hi rfl)
      have c4 := (HB.out.cell (p := ⟨b, o + k * 5 + 4, none⟩) hb).trans (hX k x 4 _ hi rfl)
      have hxk : resAt li k = mayB x := by unfold resAt; rw [List.getElem!_eq_getElem?_getD, hi]; rfl
      clear hX
      obtain ⟨lo, hi5, ks, rn, rv⟩ := x
      simp only [Nat.add_zero] at c0 c1 c2 c3 c4 hxk
      obtain ⟨q, hq⟩ : ∃ q, mayB ⟨lo, hi5, ks, rn, rv⟩ = q := ⟨_, rfl⟩
      have HP := Lib.hid (fun W => pred_any ⟨lo, hi5, ks, rn, rv⟩ W q hq)
      unfold Res.val at HP
      rw [hq] at hxk
      have HX := Lib.hid hxk
      have HI := Lib.hid hi
      clear hxk hq hi
      go_wp2_with fail
      refine (HP.out _).mono ?_
      rintro e w2 ⟨rfl, hb2⟩
      have HB2 := Lib.hid (bThen HB.out hb2)
      clear hb2 HB c0 c1 c2 c3 c4
      cases q with
      | true =>
        go_wp2_with fail
        go_roundw
        case rel => exact ⟨k + 1, by rw [Hn.out]; omega, by go_num, by rw [all_range_succ, HL.out, HX.out]; rfl, HB2.out⟩
        case measure => simp [intOf]; omega
      | false =>
        go_wp2_with fail
        go_ret
        exact ⟨_, rfl, by unfold allB; rw [all_range_not (resAt li) (by rw [Hn.out]; exact hlt) HX.out]; simp, HB2.out⟩
    · have hkn : k = n := by omega
      subst hkn
      go_wp2_with fail
      go_ret
      exact ⟨_, rfl, by unfold allB; rw [Hn.out, HL.out]; decide, HB.out⟩
set_option maxRecDepth 100000 in
theorem contains_any (li : List Res) (v : Value) (w : World) (hv : Row Res.cs 5 w v li) (hl : li.length ≤ 1000000) :
    Calls Tryz.prog 101 #[v, .func (.func 102) #[] #[]] w fun e w' => e = .returned (.bool (!allB li)) ∧ Below w.heap.size w w' := by
  have HI := Lib.hid (index_any li v w hv hl)
  obtain ⟨A, c, rfl, -, -⟩ := hv
  go_enter Tryz.func101, Tryz.ntmps101
  go_wp2_with fail
  refine (HI.out).mono ?_
  rintro e w2 ⟨r, rfl, hr, hb2⟩
  have HR := Lib.hid hr
  have HB2 := Lib.hid hb2
  clear hr hb2
  go_wp2_with fail
  go_ret
  exact ⟨by rw [← HR.out]; rfl, HB2.out⟩
set_option maxRecDepth 100000 in
theorem all_any (li : List Res) (v : Value) (w : World) (hv : Row Res.cs 5 w v li) (hl : li.length ≤ 1000000) (b : Bool) (hb : allB li = b) :
    Calls Tryz.prog 68 #[v] w fun e w' => e = .returned (.bool b) ∧ Below w.heap.size w w' := by
  have HI := Lib.hid (contains_any li v w hv hl)
  rw [hb] at HI
  obtain ⟨A, c, rfl, -, -⟩ := hv
  go_enter Tryz.func68, Tryz.ntmps68
  go_wp2_with fail
  refine (HI.out).mono ?_
  rintro e w2 ⟨rfl, hb2⟩
  have HB2 := Lib.hid hb2
  clear hb2
  cases b with
  | true =>
    go_wp2_with fail
    go_ret
    exact ⟨rfl, HB2.out⟩
  | false =>
    go_wp2_with fail
    go_ret
    exact ⟨rfl, HB2.out⟩
/-- What the reference's 'all' tells: how many there may still be. -/
def rall (l : List Res) (room : Int) : Int × Bool := if decide (l.length ≤ room) && allB l then (room - l.length, true) else (0, false)
def capN (n : Int) : Int := min n 20001
def cntTo (st : List Stg) (n : Int) : Nat → Int
  | 0 => n
  | k + 1 => capN (cntTo st n k) + capN (st[k]!.l.length : Int)
def cntS (op : List Res) (st : List Stg) (out : List Res) : Int := cntTo st (capN (op.length : Int) + capN (out.length : Int)) st.length
theorem capN_lo {n : Int} (h : 0 ≤ n) : 0 ≤ capN n := by unfold capN; omega
theorem capN_hi {n : Int} : capN n ≤ 20001 := by unfold capN; omega
theorem cntTo_bd (st : List Stg) (n : Int) (h0 : 0 ≤ n) (h1 : n ≤ 40002) : ∀ k, 0 ≤ cntTo st n k ∧ cntTo st n k ≤ 40002
  | 0 => ⟨h0, h1⟩
  | k + 1 => by
    have h := cntTo_bd st n h0 h1 k
    have a := capN_lo h.1
    have b := capN_hi (n := cntTo st n k)
    have c := capN_lo (n := (st[k]!.l.length : Int)) (by omega)
    have d := capN_hi (n := (st[k]!.l.length : Int))
    show 0 ≤ capN (cntTo st n k) + capN (st[k]!.l.length : Int) ∧ capN (cntTo st n k) + capN (st[k]!.l.length : Int) ≤ 40002
    omega
def CntRel (st : List Stg) (n : Int) (w0 : World) (i c : Value) (wr : World) : Prop := ∃ k : Nat, k ≤ st.length ∧ i = .int .i64 k ∧ c = .int .i64 (cntTo st n k) ∧ Below w0.heap.size w0 wr
set_option maxRecDepth 100000 in
set_option maxHeartbeats 1000000 in
theorem count_any (op : List Res) (st : List Stg) (last : Int) (out : List Res) (v : Value) (w : World) (hv : SinkAt w v op st last out) :
    Calls Tryz.prog 33 #[v] w fun e w' => e = .returned (.int .i64 (cntS op st out)) ∧ Below w.heap.size w w' := by
  obtain ⟨vo, vs, vu, rfl, h1, ⟨h2, h3, h4⟩, h5, h6⟩ := hv
  obtain ⟨⟨A1, c1, rfl, hc1, -⟩, -, m1⟩ := h1
  obtain ⟨⟨A3, c3, rfl, hc3, -⟩, -, m3⟩ := h6
  obtain ⟨A2, c2, rfl, hc2, hA⟩ := h2
  have HA := Lib.hid hA
  have H3 := Lib.hid h3
  clear hA h3
  unfold maxLen at m1 m3 h4
  obtain ⟨s, hs⟩ : ∃ s : Int, capN (op.length : Int) + capN (out.length : Int) = s := ⟨_, rfl⟩
  unfold cntS
  rw [hs]
  have hs0 : 0 ≤ s ∧ s ≤ 40002 := by
    have a := capN_lo (n := (op.length : Int)) (by omega)
    have b := capN_hi (n := (op.length : Int))
    have c := capN_lo (n := (out.length : Int)) (by omega)
    have d := capN_hi (n := (out.length : Int))
    omega
  have hB := cntTo_bd st s hs0.1 hs0.2
  have HBD := Lib.hid hB
  have HS := Lib.hid hs
  clear hB hs
  obtain ⟨n, hn⟩ : ∃ n, st.length = n := ⟨_, rfl⟩
  rw [hn] at h4 hc2 ⊢
  have Hn := Lib.hid hn
  clear hn
  go_enter Tryz.func33, Tryz.ntmps33
  go_wp2_with fail
  go_loopw [18, 3] (fun i c wr => CntRel st s w i c wr) (fun i _ _ => n - (intOf i).toNat)
  case atStart => exact ⟨0, Nat.zero_le _, rfl, by rw [← HS.out]; rfl, bel_alloc (Below.refl _ _) _⟩
  case round =>
    obtain ⟨k, hk, rfl, rfl, hbel⟩ := hrel
    rw [Hn.out] at hk
    have HB := Lib.hid hbel
    clear hbel
    obtain ⟨z, hz⟩ : ∃ z, cntTo st s k = z := ⟨_, rfl⟩
    have hzb := HBD.out k
    rw [hz] at hzb ⊢
    have HZ := Lib.hid hz
    clear hz
    by_cases hlt : k < n
    · obtain ⟨x, hi⟩ : ∃ x, st[k]? = some x := ⟨_, List.getElem?_eq_getElem (by rw [Hn.out]; exact hlt)⟩
      obtain ⟨b, o, rfl, hb, hX⟩ := HA.out (by rw [Hn.out]; omega)
      have c0 := (HB.out.cell (p := ⟨b, o + k * 2 + 0, none⟩) hb).trans (hX k x 0 _ hi rfl)
      have c1 := (HB.out.cell (p := ⟨b, o + k * 2 + 1, none⟩) hb).trans (hX k x 1 _ hi rfl)
      have hxk : st[k]! = x := by rw [List.getElem!_eq_getElem?_getD, hi]; rfl
      have hat := H3.out x (List.mem_of_getElem? hi)
      clear hX
      obtain ⟨xn, row, xl⟩ := x
      obtain ⟨_, ⟨AX, cx, hrow, hcx, -⟩, -, mx⟩ := hat
      have hrow' : row = .slice AX xl.length cx := hrow
      subst hrow'
      simp only [Nat.add_zero] at c0 c1 hxk hcx mx
      unfold maxLen at mx
      have HX := Lib.hid hxk
      clear hxk hi hrow
      go_wp2_with fail
      go_roundw
      case rel => exact ⟨k + 1, by rw [Hn.out]; omega, by go_num, by show _ = Value.int .i64 (capN (cntTo st s k) + capN (st[k]!.l.length : Int)); rw [HZ.out, HX.out]; rfl, bel_alloc HB.out _⟩
      case measure => simp [intOf]; omega
    · have hkn : k = n := by omega
      subst hkn
      go_wp2_with fail
      go_ret
      exact ⟨by rw [HZ.out]; rfl, HB.out⟩

def prevS (last : Int) (st : List Stg) (k : Nat) : Int := if k = 0 then last else st[k - 1]!.n
def stAt (last : Int) (st : List Stg) (k : Nat) : Bool := decide (prevS last st k < st[k]!.n) && (decide (st[k]!.n ≤ 1073741824) && allB st[k]!.l)
def headS (op : List Res) (st : List Stg) (last : Int) (out : List Res) : Bool :=
  decide (0 ≤ last) && (decide (last ≤ 1073741824) && (decide (st.length ≤ 8) && (decide (cntS op st out ≤ 20000) && (allB op && allB out))))
def rightS (op : List Res) (st : List Stg) (last : Int) (out : List Res) : Bool := headS op st last out && (List.range st.length).all (stAt last st)
def sumTo (st : List Stg) (n : Int) : Nat → Int
  | 0 => n
  | k + 1 => sumTo st n k + (st[k]!.l.length : Int)
theorem sumTo_lo (st : List Stg) (n : Int) (h : 0 ≤ n) : ∀ k, n ≤ sumTo st n k
  | 0 => Int.le_refl _
  | k + 1 => by have := sumTo_lo st n h k; show n ≤ sumTo st n k + (st[k]!.l.length : Int); omega
theorem sumTo_mono (st : List Stg) (n : Int) (k : Nat) : ∀ j, sumTo st n k ≤ sumTo st n (k + j)
  | 0 => Int.le_refl _
  | j + 1 => by have := sumTo_mono st n k j; show sumTo st n k ≤ sumTo st n (k + j) + (st[k + j]!.l.length : Int); omega
theorem cnt_sum (st : List Stg) (a b : Nat) : ∀ k, (cntTo st (capN a + capN b) k ≤ 20000 → cntTo st (capN a + capN b) k = sumTo st ((a : Int) + b) k) ∧ (sumTo st ((a : Int) + b) k ≤ 20000 → cntTo st (capN a + capN b) k = sumTo st ((a : Int) + b) k)
  | 0 => by
    show (capN a + capN b ≤ 20000 → capN a + capN b = (a : Int) + b) ∧ ((a : Int) + b ≤ 20000 → capN a + capN b = (a : Int) + b)
    unfold capN; omega
  | k + 1 => by
    obtain ⟨h1, h2⟩ := cnt_sum st a b k
    have h3 := sumTo_lo st ((a : Int) + b) (by omega) k
    have h4 := (cntTo_bd st (capN a + capN b) (by unfold capN; omega) (by unfold capN; omega) k).1
    show (capN (cntTo st (capN a + capN b) k) + capN (st[k]!.l.length : Int) ≤ 20000 → capN (cntTo st (capN a + capN b) k) + capN (st[k]!.l.length : Int) = sumTo st ((a : Int) + b) k + (st[k]!.l.length : Int)) ∧ (sumTo st ((a : Int) + b) k + (st[k]!.l.length : Int) ≤ 20000 → capN (cntTo st (capN a + capN b) k) + capN (st[k]!.l.length : Int) = sumTo st ((a : Int) + b) k + (st[k]!.l.length : Int))
    generalize cntTo st (capN a + capN b) k = x at *
    generalize sumTo st ((a : Int) + b) k = y at *
    unfold capN
    omega
/-- The lengths that a count within bounds leaves. -/
theorem cnt_lens {op : List Res} {st : List Stg} {out : List Res} (h : cntS op st out ≤ 20000) : op.length ≤ 20000 ∧ out.length ≤ 20000 ∧ (∀ k, k < st.length → st[k]!.l.length ≤ 20000) ∧ cntS op st out = sumTo st ((op.length : Int) + out.length) st.length := by
  have e := (cnt_sum st op.length out.length st.length).1 h
  have h0 := sumTo_lo st ((op.length : Int) + out.length) (by omega) st.length
  unfold cntS at h ⊢
  refine ⟨by omega, by omega, fun k hk => ?_, e⟩
  have h1 := sumTo_mono st ((op.length : Int) + out.length) (k + 1) (st.length - (k + 1))
  rw [show k + 1 + (st.length - (k + 1)) = st.length by omega] at h1
  have h2 := sumTo_lo st ((op.length : Int) + out.length) (by omega) k
  have h3 : sumTo st ((op.length : Int) + out.length) (k + 1) = sumTo st ((op.length : Int) + out.length) k + (st[k]!.l.length : Int) := rfl
  omega
/-- The document's way: how many there may still be. -/
def roomGo (st : List Stg) (room : Int) (k : Nat) : Int := room - (sumTo st 0 k)
theorem sumTo_shift (st : List Stg) (n : Int) : ∀ k, sumTo st n k = n + sumTo st 0 k
  | 0 => by show n = n + 0; omega
  | k + 1 => by have := sumTo_shift st n k; show sumTo st n k + (st[k]!.l.length : Int) = n + (sumTo st 0 k + (st[k]!.l.length : Int)); omega
def roomS (op : List Res) (st : List Stg) (last : Int) (out : List Res) : Int × Bool :=
  if rightS op st last out then (20000 - sumTo st ((op.length : Int) + out.length) st.length, true) else (0, false)
def SrRel (st : List Stg) (last : Int) (w0 : World) (l i : Value) (wr : World) : Prop := ∃ k : Nat, k ≤ st.length ∧ i = .int .i64 k ∧ l = .int .i64 (prevS last st k) ∧ (List.range k).all (stAt last st) = true ∧ Below w0.heap.size w0 wr
set_option maxRecDepth 100000 in
set_option maxHeartbeats 4000000 in
theorem sright_any (op : List Res) (st : List Stg) (last : Int) (out : List Res) (v : Value) (w : World) (hv : SinkAt w v op st last out) (b : Bool) (hb : rightS op st last out = b) :
    Calls Tryz.prog 31 #[v] w fun e w' => e = .returned (.bool b) ∧ Below w.heap.size w w' := by
  have HV := Lib.hid hv
  obtain ⟨vo, vs, vu, rfl, h1, ⟨h2, h3, h4⟩, ⟨h5, h5'⟩, h6⟩ := hv
  have R1 := Lib.hid h1
  have R3 := Lib.hid h6
  have R2 := Lib.hid h2
  obtain ⟨⟨A1, c1, rfl, -, -⟩, -, m1⟩ := h1
  obtain ⟨⟨A3, c3, rfl, -, -⟩, -, m3⟩ := h6
  obtain ⟨A2, c2, rfl, hc2, hA⟩ := h2
  have HA := Lib.hid hA
  have H3 := Lib.hid h3
  clear hA h3
  unfold maxLen at m1 m3 h4
  have HC := Lib.hid (fun v W hW => count_any op st last out v W hW)
  obtain ⟨n, hn⟩ : ∃ n, st.length = n := ⟨_, rfl⟩
  rw [hn] at h4 hc2 HV R2 ⊢
  have Hn := Lib.hid hn
  by_cases g1 : 0 ≤ last
  rotate_left
  · have hf : b = false := by rw [← hb]; unfold rightS headS; simp [g1]
    subst hf
    clear hb hn
    go_enter Tryz.func31, Tryz.ntmps31
    go_wp2_with fail
    go_ret
    exact ⟨rfl, bel_alloc (Below.refl _ _) _⟩
  by_cases g2 : last ≤ 1073741824
  rotate_left
  · have hf : b = false := by rw [← hb]; unfold rightS headS; simp [g2]
    subst hf
    clear hb hn
    go_enter Tryz.func31, Tryz.ntmps31
    go_wp2_with fail
    go_ret
    exact ⟨rfl, bel_alloc (Below.refl _ _) _⟩
  by_cases g3 : n ≤ 8
  rotate_left
  · have hf : b = false := by rw [← hb]; unfold rightS headS; rw [hn]; simp [g3]
    subst hf
    clear hb hn
    go_enter Tryz.func31, Tryz.ntmps31
    go_wp2_with fail
    go_ret
    exact ⟨rfl, bel_alloc (Below.refl _ _) _⟩
  have HB0 := Lib.hid hb
  clear hb hn
  obtain ⟨cn, hcn⟩ : ∃ cn, cntS op st out = cn := ⟨_, rfl⟩
  rw [hcn] at HC
  have HCN := Lib.hid hcn
  clear hcn
  go_enter Tryz.func31, Tryz.ntmps31
  go_wp2_with fail
  refine (HC.out _ _ (HV.out.below (bel_alloc (Below.refl _ _) _))).mono ?_
  rintro e w1 ⟨rfl, hb1⟩
  have K1 := Lib.hid (newA hb1)
  have B1 := Lib.hid (belA (Below.refl _ _) hb1)
  clear hb1
  by_cases g4 : cn ≤ 20000
  rotate_left
  · have hf : b = false := by rw [← HB0.out]; unfold rightS headS; rw [HCN.out]; simp [g4]
    subst hf
    go_wp2_with fail
    go_ret
    exact ⟨rfl, B1.out⟩
  have hl := cnt_lens (HCN.out ▸ g4)
  have HL := Lib.hid hl
  have hl1 := hl.1
  have hl3 := hl.2.1
  clear hl
  have hz := B1.out.size
  have hz0 := blk_lt K1.out
  have d0 := cellsAt K1.out 0
  have d1 := cellsAt K1.out 1
  have d2 := cellsAt K1.out 2
  have d3 := cellsAt K1.out 3
  simp at d0 d1 d2 d3
  obtain ⟨q1, hq1⟩ : ∃ q, allB op = q := ⟨_, rfl⟩
  have HQ1 := Lib.hid hq1
  have P1 := Lib.hid (fun v W hW => all_any op v W hW (by omega) q1 hq1)
  clear hq1
  go_wp2_with fail
  refine (P1.out _ _ (R1.out.1.below B1.out)).mono ?_
  rintro e w2 ⟨rfl, hb2⟩
  cases q1 with
  | false =>
    have hf : b = false := by rw [← HB0.out]; unfold rightS headS; rw [HQ1.out]; simp
    subst hf
    go_wp2_with fail
    go_ret
    exact ⟨rfl, bThen B1.out hb2⟩
  | true =>
  have e0 := (hb2.cell (p := ⟨w.heap.size, 0, none⟩) hz0).trans d0
  have e1 := (hb2.cell (p := ⟨w.heap.size, 1, none⟩) hz0).trans d1
  have e2 := (hb2.cell (p := ⟨w.heap.size, 2, none⟩) hz0).trans d2
  have e3 := (hb2.cell (p := ⟨w.heap.size, 3, none⟩) hz0).trans d3
  have hz2 := hb2.size
  have hz20 : w.heap.size < w2.heap.size := by omega
  have B2 := Lib.hid (bThen B1.out hb2)
  clear hb2 d0 d1 d2 d3
  obtain ⟨q2, hq2⟩ : ∃ q, allB out = q := ⟨_, rfl⟩
  have HQ2 := Lib.hid hq2
  have P2 := Lib.hid (fun v W hW => all_any out v W hW (by omega) q2 hq2)
  clear hq2
  go_wp2_with fail
  refine (P2.out _ _ (R3.out.1.below B2.out)).mono ?_
  rintro e w3 ⟨rfl, hb3⟩
  cases q2 with
  | false =>
    have hf : b = false := by rw [← HB0.out]; unfold rightS headS; rw [HQ2.out]; simp
    subst hf
    go_wp2_with fail
    go_ret
    exact ⟨rfl, bThen B2.out hb3⟩
  | true =>
  have f1 := (hb3.cell (p := ⟨w.heap.size, 1, none⟩) hz20).trans e1
  have f2 := (hb3.cell (p := ⟨w.heap.size, 2, none⟩) hz20).trans e2
  have hz3 := hb3.size
  have hz30 : w.heap.size < w3.heap.size := by omega
  have B3 := Lib.hid (bThen B2.out hb3)
  clear hb3 e0 e1 e2 e3
  have HD : headS op st last out = true := by
    unfold headS; rw [HCN.out, HQ1.out, HQ2.out, Hn.out]; simp [g1, g2, g3, g4]
  have HHD := Lib.hid HD
  clear HD
  go_wp2_with fail
  go_loopw [3, 42] (fun l i wr => SrRel st last w3 l i wr) (fun _ i _ => n - (intOf i).toNat)
  case atStart => exact ⟨0, Nat.zero_le _, rfl, rfl, rfl, Below.refl _ _⟩
  case round =>
    obtain ⟨k, hk, rfl, rfl, hall, hbel⟩ := hrel
    rw [Hn.out] at hk
    have HB := Lib.hid hbel
    have HA1 := Lib.hid hall
    clear hbel hall
    by_cases hlt : k < n
    · obtain ⟨x, hi⟩ : ∃ x, st[k]? = some x := ⟨_, List.getElem?_eq_getElem (by rw [Hn.out]; exact hlt)⟩
      obtain ⟨bb, o, rfl, hbb, hX⟩ := HA.out (by rw [Hn.out]; omega)
      have c0 := ((bThen B3.out HB.out).cell (p := ⟨bb, o + k * 2 + 0, none⟩) hbb).trans (hX k x 0 _ hi rfl)
      have c1 := ((bThen B3.out HB.out).cell (p := ⟨bb, o + k * 2 + 1, none⟩) hbb).trans (hX k x 1 _ hi rfl)
      have hxk : st[k]! = x := by rw [List.getElem!_eq_getElem?_getD, hi]; rfl
      have hat := H3.out x (List.mem_of_getElem? hi)
      have hlen := HL.out.2.2.1 k (by rw [Hn.out]; exact hlt)
      rw [hxk] at hlen
      clear hX
      obtain ⟨xn, row, xl⟩ := x
      obtain ⟨hxn, hrow⟩ := hat
      have HR := Lib.hid hrow
      obtain ⟨⟨AX, cx, hrw, hcx, -⟩, -, mx⟩ := hrow
      have hrow' : row = .slice AX xl.length cx := hrw
      subst hrow'
      simp only [Nat.add_zero] at c0 c1 hxk hcx mx hlen
      obtain ⟨p, hp⟩ : ∃ p, prevS last st k = p := ⟨_, rfl⟩
      have hxk2 : stAt last st k = (decide (p < xn) && (decide (xn ≤ 1073741824) && allB xl)) := by unfold stAt; rw [hp, hxk]
      rw [hp]
      obtain ⟨q, hq⟩ : ∃ q, allB xl = q := ⟨_, rfl⟩
      have P4 := Lib.hid (fun v W hW => all_any xl v W hW (by omega) q hq)
      rw [hq] at hxk2
      have HXK := Lib.hid hxk
      have HX2 := Lib.hid hxk2
      clear hxk hi hrw hp hq hxk2
      by_cases j1 : p < xn
      rotate_left
      · have hf : b = false := by rw [← HB0.out]; unfold rightS; rw [all_range_not (stAt last st) (by rw [Hn.out]; exact hlt) (by rw [HX2.out]; simp [j1]), Bool.and_false]
        subst hf
        go_wp2_with fail
        go_ret
        exact ⟨rfl, bThen B3.out (bel_alloc HB.out _)⟩
      by_cases j2 : xn ≤ 1073741824
      rotate_left
      · have hf : b = false := by rw [← HB0.out]; unfold rightS; rw [all_range_not (stAt last st) (by rw [Hn.out]; exact hlt) (by rw [HX2.out]; simp [j2]), Bool.and_false]
        subst hf
        go_wp2_with fail
        go_ret
        exact ⟨rfl, bThen B3.out (bel_alloc HB.out _)⟩
      go_wp2_with fail
      refine (P4.out _ _ (HR.out.1.below (bThen B3.out (bel_alloc HB.out _)))).mono ?_
      rintro e w5 ⟨rfl, hb5⟩
      have K5 := Lib.hid (newA hb5)
      have B5 := Lib.hid (belA HB.out hb5)
      clear hb5 c0 c1
      cases q with
      | false =>
        have hf : b = false := by rw [← HB0.out]; unfold rightS; rw [all_range_not (stAt last st) (by rw [Hn.out]; exact hlt) (by rw [HX2.out]; simp), Bool.and_false]
        subst hf
        go_wp2_with fail
        go_ret
        exact ⟨rfl, bThen B3.out B5.out⟩
      | true =>
        have e0 := cellsAt K5.out 0
        have hz5 := blk_lt K5.out
        simp at e0
        go_wp2_with fail
        go_roundw
        case rel => exact ⟨k + 1, by rw [Hn.out]; omega, by go_num, by unfold prevS; rw [if_neg (by omega), Nat.add_sub_cancel, HXK.out], by rw [all_range_succ, HA1.out, HX2.out]; simp [j1, j2], B5.out⟩
        case measure => simp [intOf]; omega
    · have hkn : k = n := by omega
      subst hkn
      have hf : b = true := by rw [← HB0.out]; unfold rightS; rw [HHD.out, Hn.out, HA1.out]; rfl
      subst hf
      go_wp2_with fail
      go_ret
      exact ⟨rfl, bThen B3.out HB.out⟩
theorem Res.cs_one {l : List Res} : ∀ u ∈ l.flatMap Res.cs, u.oneCell' = true := by
  intro u hu
  obtain ⟨x, -, hx⟩ := List.mem_flatMap.1 hu
  simp [Res.cs] at hx
  rcases hx with rfl | rfl | rfl | rfl | rfl <;> rfl
theorem Stg.cs_one {W : World} {l : List Stg} (h : ∀ x ∈ l, x.At W) : ∀ u ∈ l.flatMap Stg.cs, u.oneCell' = true := by
  intro u hu
  obtain ⟨x, hm, hx⟩ := List.mem_flatMap.1 hu
  obtain ⟨-, ⟨A, c, e, -, -⟩, -⟩ := h x hm
  simp [Stg.cs] at hx
  rcases hx with rfl | rfl
  · rfl
  · rw [e]; rfl
theorem info_rs : (Tryz.prog.info? 37).map (fun i => (i.zero, i.size, i.bytes)) = some (some (.agg #[.int .i64 0, .int .i64 0, .string ⟨#[]⟩, .int .i64 0, .int .i64 0]), 5, 48) := by kernel_rfl
theorem info_sg : (Tryz.prog.info? 145).map (fun i => (i.zero, i.size, i.bytes)) = some (some (.agg #[.int .i64 0, .slice none 0 0]), 2, 32) := by kernel_rfl
def ClRTo (l : List Res) (w : World) (e : Ending) (w' : World) : Prop := ∃ v, e = .returned v ∧ w'.ownsRow w.heap.size 37 5 v l.length (l.flatMap Res.cs) ∧ Below w.heap.size w w'
set_option maxHeartbeats 1000000 in
set_option maxRecDepth 100000 in
theorem cloneR_any (l : List Res) (v : Value) (w : World) (hv : Row Res.cs 5 w v l) (hl : l.length ≤ 1000000) :
    Calls Tryz.prog 34 #[v] w (ClRTo l w) := by
  obtain ⟨i0, hi, hz0, hz1, hz2⟩ := info_parts info_rs
  have HV := Lib.hid hv
  obtain ⟨A, c, rfl, hc, hA⟩ := hv
  have HA := Lib.hid hA
  have HI := Lib.hid hi
  have HZ0 := Lib.hid hz0
  have HZ1 := Lib.hid hz1
  have HZ2 := Lib.hid hz2
  clear hi hz0 hz1 hz2 hA
  have heq := fun W : World => Lib.run_eql_slice_nil (P := Tryz.prog) W 25 37 A l.length c 0 0 Tryz.underlying25
  cases A with
  | none =>
    have hl0 : l = [] := by
      cases l with
      | nil => rfl
      | cons a l =>
        obtain ⟨b, o, h, -⟩ := HA.out (by simp)
        cases h
    subst hl0
    simp only [List.length_nil] at heq ⊢
    go_enter Tryz.func34, Tryz.ntmps34
    go_wp2_with fail
    go_ret
    exact ⟨_, rfl, World.ownsRow_nil _ _ _ _, Below.refl _ _⟩
  | some ad =>
    go_enter Tryz.func34, Tryz.ntmps34
    go_wp2_with (at_builtin; refine wpList_append_own _ rfl _ _ 25 rfl w.heap.size 37 i0 (.agg #[.int .i64 0, .int .i64 0, .string ⟨#[]⟩, .int .i64 0, .int .i64 0]) 5 48 Tryz.underlying25 HI.out HZ0.out HZ1.out HZ2.out rfl (by decide) _ _ _ rfl (own_empty w w.heap.size 37 5 (Nat.le_refl _)) ad l.length c (l.flatMap Res.cs) rfl (flat_len Res.cs_len l) ?c1 ?c2 ?c3 ?c4 ?c5 ?_)
    case c1 =>
      intro j u hj
      have h0 : 0 < l.length := by
        cases l with
        | nil => simp at hj
        | cons a l => simp
      obtain ⟨b, o, h, hb, hx⟩ := HA.out h0
      obtain ⟨i, x, j', h1, h2, rfl⟩ := flat_inv Res.cs_len hj
      injection h with h
      rw [h, add_at, ← Nat.add_assoc]
      exact (World.cell?_alloc_lt w _ _ hb).trans (hx i x j' u h1 h2)
    case c2 => intro u hu; exact Res.cs_one u hu
    case c3 => unfold maxLen; omega
    case c4 => omega
    case c5 => simp
    intro v' W3 hown3 hgrow3 _
    have HO3 := Lib.hid hown3
    have HW3 := Lib.hid ((bel_alloc (Below.refl _ w) (.cells #[] 37)).grown hgrow3 (by simp) (fun q hq => by simp [Value.ownBlock] at hq; omega))
    clear hown3 hgrow3
    go_wp2_with fail
    go_ret
    refine ⟨_, rfl, ?_, HW3.out⟩
    simpa using HO3.out
def ClSTo (l : List Stg) (w : World) (e : Ending) (w' : World) : Prop := ∃ v, e = .returned v ∧ w'.ownsRow w.heap.size 145 2 v l.length (l.flatMap Stg.cs) ∧ Below w.heap.size w w'
/-- A sink that is nothing. -/
def zS : Value := .agg #[.slice none 0 0, .slice none 0 0, .int .i64 0, .slice none 0 0]
theorem sink_form {W : World} {v : Value} {op out : List Res} {st : List Stg} {last : Int} (h : SinkAt W v op st last out) :
    ∃ A1 c1 A2 c2 A3 c3, v = .agg #[.slice A1 op.length c1, .slice A2 st.length c2, .int .i64 last, .slice A3 out.length c3] := by
  obtain ⟨vo, vs, vu, rfl, ⟨⟨A1, c1, rfl, -, -⟩, -⟩, ⟨⟨A2, c2, rfl, -, -⟩, -⟩, -, ⟨⟨A3, c3, rfl, -, -⟩, -⟩⟩ := h
  exact ⟨_, _, _, _, _, _, rfl⟩
theorem heap_below {W W' : World} {g : Nat} {o : Obj} (h : W.heap[g]? = some o) (hb : Below W.heap.size W W') : W'.heap[g]? = some o := (hb.block g (blk_lt h)).trans h
theorem set4 {w1 : World} {g : Nat} {x0 x1 x2 x3 : Value} {T : TypeId} (h : w1.heap[g]? = some (.cells #[x0, x1, x2, x3] T (0, 0))) (a b c d : Value) :
    ((((w1.setCell ⟨g, 0, none⟩ a).setCell ⟨g, 1, none⟩ b).setCell ⟨g, 2, none⟩ c).setCell ⟨g, 3, none⟩ d).heap[g]? = some (.cells #[a, b, c, d] T (0, 0)) := by
  have := blk_set (blk_set (blk_set (blk_set h 0 a) 1 b) 2 c) 3 d
  simpa using this
theorem bel4 {w w1 : World} {n : Nat} (B : Below n w w1) {g : Nat} (hg : n ≤ g) (a b c d : Value) :
    Below n w ((((w1.setCell ⟨g, 0, none⟩ a).setCell ⟨g, 1, none⟩ b).setCell ⟨g, 2, none⟩ c).setCell ⟨g, 3, none⟩ d) :=
  (((B.setCell (p := ⟨g, 0, none⟩) hg a).setCell (p := ⟨g, 1, none⟩) hg b).setCell (p := ⟨g, 2, none⟩) hg c).setCell (p := ⟨g, 3, none⟩) hg d
set_option maxRecDepth 100000 in
set_option maxHeartbeats 2000000 in
theorem sadd_no1 (op : List Res) (st : List Stg) (last : Int) (out : List Res) (r : Res) (v : Value) (w : World) (hv : SinkAt w v op st last out) (h : rightS op st last out = false) :
    Calls Tryz.prog 9 #[v, r.val] w fun e w' => e = .returned (.tuple #[zS, .int .i64 1]) ∧ Below w.heap.size w w' := by
  have HR := Lib.hid (fun v W hW => sright_any op st last out v W hW false h)
  clear h
  have HV := Lib.hid hv
  obtain ⟨A1, c1, A2, c2, A3, c3, rfl⟩ := sink_form hv
  obtain ⟨rl, rh, rk, rn, rv⟩ := r
  clear hv
  unfold Res.val
  unfold zS
  go_enter Tryz.func9, Tryz.ntmps9
  go_wp2_with fail
  obtain ⟨W1, hW1⟩ : ∃ W1, W1 = ((w.alloc (.cells #[.slice A1 op.length c1, .slice A2 st.length c2, .int .i64 last, .slice A3 out.length c3] 33)).alloc (.cells #[.int .i64 rl, .int .i64 rh, .string rk, .int .i64 rn, .int .i64 rv] 37)).alloc (.cells #[.slice none 0 0, .slice none 0 0, .int .i64 0, .slice none 0 0] 33) := ⟨_, rfl⟩
  rw [← hW1]
  have BW := Lib.hid (show Below w.heap.size w W1 by rw [hW1]; exact bel_alloc (bel_alloc (bel_alloc (Below.refl _ _) _) _) _)
  have K2 := Lib.hid (show W1.heap[w.heap.size + 1 + 1]? = some (.cells #[.slice none 0 0, .slice none 0 0, .int .i64 0, .slice none 0 0] 33 (0, 0)) by rw [hW1]; exact heap_at _ _ _ (by simp))
  have K1 := Lib.hid (show W1.heap[w.heap.size + 1]? = some (.cells #[.int .i64 rl, .int .i64 rh, .string rk, .int .i64 rn, .int .i64 rv] 37 (0, 0)) by rw [hW1]; exact heap_below (heap_at (w.alloc _) _ (w.heap.size + 1) (by simp)) (bel_alloc (Below.refl _ _) _))
  have K0 := Lib.hid (show W1.heap[w.heap.size]? = some (.cells #[.slice A1 op.length c1, .slice A2 st.length c2, .int .i64 last, .slice A3 out.length c3] 33 (0, 0)) by rw [hW1]; exact newA (bel_alloc (bel_alloc (Below.refl _ _) _) _))
  clear hW1
  refine (HR.out _ _ (HV.out.below BW.out)).mono ?_
  rintro e w1 ⟨rfl, hb1⟩
  have B1 := Lib.hid (bThen BW.out hb1)
  have L0 := Lib.hid (heap_below K0.out hb1)
  have L1 := Lib.hid (heap_below K1.out hb1)
  have L2 := Lib.hid (heap_below K2.out hb1)
  clear hb1 K0 K1 K2
  have hz2 := blk_lt L2.out
  have hz1 := blk_lt L1.out
  have hz0 := blk_lt L0.out
  have d0 := cellsAt L2.out 0
  have d1 := cellsAt L2.out 1
  have d2 := cellsAt L2.out 2
  have d3 := cellsAt L2.out 3
  have fz := frozAt L2.out
  have s0 := cellsAt L0.out 0
  have s1 := cellsAt L0.out 1
  have s2 := cellsAt L0.out 2
  have s3 := cellsAt L0.out 3
  have sz := frozAt L0.out
  have r0 := cellsAt L1.out 0
  have r1 := cellsAt L1.out 1
  have r2 := cellsAt L1.out 2
  have r3 := cellsAt L1.out 3
  have r4 := cellsAt L1.out 4
  simp at d0 d1 d2 d3 s0 s1 s2 s3 r0 r1 r2 r3 r4
  go_wp2_with fail
  have E := set4 L2.out (.slice none 0 0) (.slice none 0 0) (.int .i64 0) (.slice none 0 0)
  have BE := Lib.hid (bel4 B1.out (g := w.heap.size + 1 + 1) (by omega) (.slice none 0 0) (.slice none 0 0) (.int .i64 0) (.slice none 0 0))
  clear d0 d1 d2 d3 fz
  generalize ((((w1.setCell ⟨w.heap.size + 1 + 1, 0, none⟩ (.slice none 0 0)).setCell ⟨w.heap.size + 1 + 1, 1, none⟩ (.slice none 0 0)).setCell ⟨w.heap.size + 1 + 1, 2, none⟩ (.int .i64 0)).setCell ⟨w.heap.size + 1 + 1, 3, none⟩ (.slice none 0 0)) = W6 at *
  have e0 := cellsAt E 0
  have e1 := cellsAt E 1
  have e2 := cellsAt E 2
  have e3 := cellsAt E 3
  simp at e0 e1 e2 e3
  exact bodyPost_ret (v := .tuple #[.agg #[.slice none 0 0, .slice none 0 0, .int .i64 0, .slice none 0 0], .int .i64 1]) (by simp [results, Tryz.results9, go_sem, e0, e1, e2, e3]) rfl ⟨rfl, BE.out⟩
set_option maxRecDepth 100000 in
set_option maxHeartbeats 2000000 in
theorem sadd_no2 (op : List Res) (st : List Stg) (last : Int) (out : List Res) (r : Res) (v : Value) (w : World) (hv : SinkAt w v op st last out) (h : rightS op st last out = true) (h2 : mayB r = false) :
    Calls Tryz.prog 9 #[v, r.val] w fun e w' => e = .returned (.tuple #[zS, .int .i64 1]) ∧ Below w.heap.size w w' := by
  have HR := Lib.hid (fun v W hW => sright_any op st last out v W hW true h)
  have HM := Lib.hid (fun W => may_any r W false h2)
  clear h h2
  have HV := Lib.hid hv
  obtain ⟨A1, c1, A2, c2, A3, c3, rfl⟩ := sink_form hv
  obtain ⟨rl, rh, rk, rn, rv⟩ := r
  clear hv
  unfold Res.val at HM ⊢
  unfold zS
  go_enter Tryz.func9, Tryz.ntmps9
  go_wp2_with fail
  obtain ⟨W1, hW1⟩ : ∃ W1, W1 = ((w.alloc (.cells #[.slice A1 op.length c1, .slice A2 st.length c2, .int .i64 last, .slice A3 out.length c3] 33)).alloc (.cells #[.int .i64 rl, .int .i64 rh, .string rk, .int .i64 rn, .int .i64 rv] 37)).alloc (.cells #[.slice none 0 0, .slice none 0 0, .int .i64 0, .slice none 0 0] 33) := ⟨_, rfl⟩
  rw [← hW1]
  have BW := Lib.hid (show Below w.heap.size w W1 by rw [hW1]; exact bel_alloc (bel_alloc (bel_alloc (Below.refl _ _) _) _) _)
  have K2 := Lib.hid (show W1.heap[w.heap.size + 1 + 1]? = some (.cells #[.slice none 0 0, .slice none 0 0, .int .i64 0, .slice none 0 0] 33 (0, 0)) by rw [hW1]; exact heap_at _ _ _ (by simp))
  have K1 := Lib.hid (show W1.heap[w.heap.size + 1]? = some (.cells #[.int .i64 rl, .int .i64 rh, .string rk, .int .i64 rn, .int .i64 rv] 37 (0, 0)) by rw [hW1]; exact heap_below (heap_at (w.alloc _) _ (w.heap.size + 1) (by simp)) (bel_alloc (Below.refl _ _) _))
  have K0 := Lib.hid (show W1.heap[w.heap.size]? = some (.cells #[.slice A1 op.length c1, .slice A2 st.length c2, .int .i64 last, .slice A3 out.length c3] 33 (0, 0)) by rw [hW1]; exact newA (bel_alloc (bel_alloc (Below.refl _ _) _) _))
  clear hW1
  refine (HR.out _ _ (HV.out.below BW.out)).mono ?_
  rintro e w1 ⟨rfl, hb1⟩
  have B1 := Lib.hid (bThen BW.out hb1)
  have L0 := Lib.hid (heap_below K0.out hb1)
  have L1 := Lib.hid (heap_below K1.out hb1)
  have L2 := Lib.hid (heap_below K2.out hb1)
  clear hb1 K0 K1 K2
  have hz2 := blk_lt L2.out
  have hz1 := blk_lt L1.out
  have hz0 := blk_lt L0.out
  have d0 := cellsAt L2.out 0
  have d1 := cellsAt L2.out 1
  have d2 := cellsAt L2.out 2
  have d3 := cellsAt L2.out 3
  have fz := frozAt L2.out
  have s0 := cellsAt L0.out 0
  have s1 := cellsAt L0.out 1
  have s2 := cellsAt L0.out 2
  have s3 := cellsAt L0.out 3
  have sz := frozAt L0.out
  have r0 := cellsAt L1.out 0
  have r1 := cellsAt L1.out 1
  have r2 := cellsAt L1.out 2
  have r3 := cellsAt L1.out 3
  have r4 := cellsAt L1.out 4
  simp at d0 d1 d2 d3 s0 s1 s2 s3 r0 r1 r2 r3 r4
  go_wp2_with fail
  refine (HM.out _).mono ?_
  rintro e w2 ⟨rfl, hb2⟩
  have B2 := Lib.hid (bThen B1.out hb2)
  have M0 := Lib.hid (heap_below L0.out hb2)
  have M1 := Lib.hid (heap_below L1.out hb2)
  have M2 := Lib.hid (heap_below L2.out hb2)
  clear hb2 L0 L1 L2
  clear d0 d1 d2 d3 s0 s1 s2 s3 r0 r1 r2 r3 r4 hz0 hz1 hz2 fz sz
  have hz2 := blk_lt M2.out
  have hz1 := blk_lt M1.out
  have hz0 := blk_lt M0.out
  have d0 := cellsAt M2.out 0
  have d1 := cellsAt M2.out 1
  have d2 := cellsAt M2.out 2
  have d3 := cellsAt M2.out 3
  have fz := frozAt M2.out
  have s0 := cellsAt M0.out 0
  have s1 := cellsAt M0.out 1
  have s2 := cellsAt M0.out 2
  have s3 := cellsAt M0.out 3
  have sz := frozAt M0.out
  have r0 := cellsAt M1.out 0
  have r1 := cellsAt M1.out 1
  have r2 := cellsAt M1.out 2
  have r3 := cellsAt M1.out 3
  have r4 := cellsAt M1.out 4
  simp at d0 d1 d2 d3 s0 s1 s2 s3 r0 r1 r2 r3 r4
  go_wp2_with fail
  have E := set4 M2.out (.slice none 0 0) (.slice none 0 0) (.int .i64 0) (.slice none 0 0)
  have BE := Lib.hid (bel4 B2.out (g := w.heap.size + 1 + 1) (by omega) (.slice none 0 0) (.slice none 0 0) (.int .i64 0) (.slice none 0 0))
  clear d0 d1 d2 d3 fz
  generalize ((((w2.setCell ⟨w.heap.size + 1 + 1, 0, none⟩ (.slice none 0 0)).setCell ⟨w.heap.size + 1 + 1, 1, none⟩ (.slice none 0 0)).setCell ⟨w.heap.size + 1 + 1, 2, none⟩ (.int .i64 0)).setCell ⟨w.heap.size + 1 + 1, 3, none⟩ (.slice none 0 0)) = W6 at *
  have e0 := cellsAt E 0
  have e1 := cellsAt E 1
  have e2 := cellsAt E 2
  have e3 := cellsAt E 3
  simp at e0 e1 e2 e3
  exact bodyPost_ret (v := .tuple #[.agg #[.slice none 0 0, .slice none 0 0, .int .i64 0, .slice none 0 0], .int .i64 1]) (by simp [results, Tryz.results9, go_sem, e0, e1, e2, e3]) rfl ⟨rfl, BE.out⟩
set_option maxRecDepth 100000 in
set_option maxHeartbeats 2000000 in
theorem sadd_no3 (op : List Res) (st : List Stg) (last : Int) (out : List Res) (r : Res) (v : Value) (w : World) (hv : SinkAt w v op st last out) (h : rightS op st last out = true) (h2 : mayB r = true) (h3 : 20000 ≤ cntS op st out) :
    Calls Tryz.prog 9 #[v, r.val] w fun e w' => e = .returned (.tuple #[zS, .int .i64 3]) ∧ Below w.heap.size w w' := by
  have HR := Lib.hid (fun v W hW => sright_any op st last out v W hW true h)
  have HM := Lib.hid (fun W => may_any r W true h2)
  have HC := Lib.hid (fun v W hW => count_any op st last out v W hW)
  obtain ⟨cn, hcn⟩ : ∃ cn, cntS op st out = cn := ⟨_, rfl⟩
  rw [hcn] at h3 HC
  clear h h2 hcn
  have HV := Lib.hid hv
  obtain ⟨A1, c1, A2, c2, A3, c3, rfl⟩ := sink_form hv
  obtain ⟨rl, rh, rk, rn, rv⟩ := r
  clear hv
  unfold Res.val at HM ⊢
  unfold zS
  go_enter Tryz.func9, Tryz.ntmps9
  go_wp2_with fail
  obtain ⟨W1, hW1⟩ : ∃ W1, W1 = ((w.alloc (.cells #[.slice A1 op.length c1, .slice A2 st.length c2, .int .i64 last, .slice A3 out.length c3] 33)).alloc (.cells #[.int .i64 rl, .int .i64 rh, .string rk, .int .i64 rn, .int .i64 rv] 37)).alloc (.cells #[.slice none 0 0, .slice none 0 0, .int .i64 0, .slice none 0 0] 33) := ⟨_, rfl⟩
  rw [← hW1]
  have BW := Lib.hid (show Below w.heap.size w W1 by rw [hW1]; exact bel_alloc (bel_alloc (bel_alloc (Below.refl _ _) _) _) _)
  have K2 := Lib.hid (show W1.heap[w.heap.size + 1 + 1]? = some (.cells #[.slice none 0 0, .slice none 0 0, .int .i64 0, .slice none 0 0] 33 (0, 0)) by rw [hW1]; exact heap_at _ _ _ (by simp))
  have K1 := Lib.hid (show W1.heap[w.heap.size + 1]? = some (.cells #[.int .i64 rl, .int .i64 rh, .string rk, .int .i64 rn, .int .i64 rv] 37 (0, 0)) by rw [hW1]; exact heap_below (heap_at (w.alloc _) _ (w.heap.size + 1) (by simp)) (bel_alloc (Below.refl _ _) _))
  have K0 := Lib.hid (show W1.heap[w.heap.size]? = some (.cells #[.slice A1 op.length c1, .slice A2 st.length c2, .int .i64 last, .slice A3 out.length c3] 33 (0, 0)) by rw [hW1]; exact newA (bel_alloc (bel_alloc (Below.refl _ _) _) _))
  clear hW1
  refine (HR.out _ _ (HV.out.below BW.out)).mono ?_
  rintro e w1 ⟨rfl, hb1⟩
  have B1 := Lib.hid (bThen BW.out hb1)
  have L0 := Lib.hid (heap_below K0.out hb1)
  have L1 := Lib.hid (heap_below K1.out hb1)
  have L2 := Lib.hid (heap_below K2.out hb1)
  clear hb1 K0 K1 K2
  have hz2 := blk_lt L2.out
  have hz1 := blk_lt L1.out
  have hz0 := blk_lt L0.out
  have d0 := cellsAt L2.out 0
  have d1 := cellsAt L2.out 1
  have d2 := cellsAt L2.out 2
  have d3 := cellsAt L2.out 3
  have fz := frozAt L2.out
  have s0 := cellsAt L0.out 0
  have s1 := cellsAt L0.out 1
  have s2 := cellsAt L0.out 2
  have s3 := cellsAt L0.out 3
  have sz := frozAt L0.out
  have r0 := cellsAt L1.out 0
  have r1 := cellsAt L1.out 1
  have r2 := cellsAt L1.out 2
  have r3 := cellsAt L1.out 3
  have r4 := cellsAt L1.out 4
  simp at d0 d1 d2 d3 s0 s1 s2 s3 r0 r1 r2 r3 r4
  go_wp2_with fail
  refine (HM.out _).mono ?_
  rintro e w2 ⟨rfl, hb2⟩
  have B2 := Lib.hid (bThen B1.out hb2)
  have M0 := Lib.hid (heap_below L0.out hb2)
  have M1 := Lib.hid (heap_below L1.out hb2)
  have M2 := Lib.hid (heap_below L2.out hb2)
  clear hb2 L0 L1 L2
  clear d0 d1 d2 d3 s0 s1 s2 s3 r0 r1 r2 r3 r4 hz0 hz1 hz2 fz sz
  have hz2 := blk_lt M2.out
  have hz1 := blk_lt M1.out
  have hz0 := blk_lt M0.out
  have d0 := cellsAt M2.out 0
  have d1 := cellsAt M2.out 1
  have d2 := cellsAt M2.out 2
  have d3 := cellsAt M2.out 3
  have fz := frozAt M2.out
  have s0 := cellsAt M0.out 0
  have s1 := cellsAt M0.out 1
  have s2 := cellsAt M0.out 2
  have s3 := cellsAt M0.out 3
  have sz := frozAt M0.out
  have r0 := cellsAt M1.out 0
  have r1 := cellsAt M1.out 1
  have r2 := cellsAt M1.out 2
  have r3 := cellsAt M1.out 3
  have r4 := cellsAt M1.out 4
  simp at d0 d1 d2 d3 s0 s1 s2 s3 r0 r1 r2 r3 r4
  go_wp2_with fail
  refine (HC.out _ _ (HV.out.below B2.out)).mono ?_
  rintro e w3 ⟨rfl, hb3⟩
  have B3 := Lib.hid (bThen B2.out hb3)
  have N0 := Lib.hid (heap_below M0.out hb3)
  have N1 := Lib.hid (heap_below M1.out hb3)
  have N2 := Lib.hid (heap_below M2.out hb3)
  clear hb3 M0 M1 M2
  clear d0 d1 d2 d3 s0 s1 s2 s3 r0 r1 r2 r3 r4 hz0 hz1 hz2 fz sz
  have hz2 := blk_lt N2.out
  have hz1 := blk_lt N1.out
  have hz0 := blk_lt N0.out
  have d0 := cellsAt N2.out 0
  have d1 := cellsAt N2.out 1
  have d2 := cellsAt N2.out 2
  have d3 := cellsAt N2.out 3
  have fz := frozAt N2.out
  have s0 := cellsAt N0.out 0
  have s1 := cellsAt N0.out 1
  have s2 := cellsAt N0.out 2
  have s3 := cellsAt N0.out 3
  have sz := frozAt N0.out
  have r0 := cellsAt N1.out 0
  have r1 := cellsAt N1.out 1
  have r2 := cellsAt N1.out 2
  have r3 := cellsAt N1.out 3
  have r4 := cellsAt N1.out 4
  simp at d0 d1 d2 d3 s0 s1 s2 s3 r0 r1 r2 r3 r4
  go_wp2_with fail
  have E := set4 N2.out (.slice none 0 0) (.slice none 0 0) (.int .i64 0) (.slice none 0 0)
  have BE := Lib.hid (bel4 B3.out (g := w.heap.size + 1 + 1) (by omega) (.slice none 0 0) (.slice none 0 0) (.int .i64 0) (.slice none 0 0))
  clear d0 d1 d2 d3 fz
  generalize ((((w3.setCell ⟨w.heap.size + 1 + 1, 0, none⟩ (.slice none 0 0)).setCell ⟨w.heap.size + 1 + 1, 1, none⟩ (.slice none 0 0)).setCell ⟨w.heap.size + 1 + 1, 2, none⟩ (.int .i64 0)).setCell ⟨w.heap.size + 1 + 1, 3, none⟩ (.slice none 0 0)) = W6 at *
  have e0 := cellsAt E 0
  have e1 := cellsAt E 1
  have e2 := cellsAt E 2
  have e3 := cellsAt E 3
  simp at e0 e1 e2 e3
  exact bodyPost_ret (v := .tuple #[.agg #[.slice none 0 0, .slice none 0 0, .int .i64 0, .slice none 0 0], .int .i64 3]) (by simp [results, Tryz.results9, go_sem, e0, e1, e2, e3]) rfl ⟨rfl, BE.out⟩
/-- append to a row of one's own, as a step of a region that draws. -/
theorem step_own {P : Program} {ops : Array Oper} {o : Oper} {a : Act} {w : World} {K : Act → World → Prop} {Q : Exit → Act → World → Prop} {E : Prop} (hgd : o.guard = none) (s x : Operand) (t : TypeId)
    (ho : o.op = .call { callee := .builtin .append, args := #[s, x], argTypes := #[t, t] })
    (base : Nat) (e : TypeId) (i : TypeInfo) (z : Value) (size bytes : Nat) (ht : P.underlying t = some (.slice e)) (hi : P.info? e = some i) (hz : i.zero = some z)
    (hsize : i.size = size) (hby : i.bytes = bytes) (hzs : z.cells.size = size) (hsz : 0 < size)
    (v : Value) (n : Nat) (xs : List Value) (hs : a.eval s = v) (hown : w.ownsRow base e size v n xs)
    (ad : Addr) (m c : Nat) (news : List Value) (hx : a.eval x = .slice (some ad) m c) (hl : news.length = m * size) (hnews : ∀ j u, news[j]? = some u → w.cell? (ad.add j) = some u) (h1 : ∀ u ∈ news, u.oneCell' = true)
    (h63 : n + m ≤ maxLen) (hbytes : (n + m) * bytes ≤ 140737488355328) (hbase : base ≤ w.heap.size)
    (h : ∀ v' w', w'.ownsRow base e size v' (n + m) (xs ++ news) → w.grownBy w' v.ownBlock → (v' = .slice none 0 0 ↔ v = .slice none 0 0 ∧ m = 0) → K (a.put o.dst v') w') :
    if Region.wanted o (yielded ops a.tmps) = true then Oper.wp P o a w K Q else E := by
  rw [if_pos (by simp [Region.wanted, hgd])]
  exact wp_append_own w s x t ho base e i z size bytes ht hi hz hsize hby hzs hsz v n xs hs hown ad m c news hx hl hnews h1 h63 hbytes hbase h
set_option maxRecDepth 100000 in
set_option maxHeartbeats 2000000 in
theorem sadd_yes (op : List Res) (st : List Stg) (last : Int) (out : List Res) (r : Res) (v : Value) (w : World) (hv : SinkAt w v op st last out) (h : rightS op st last out = true) (h2 : mayB r = true) (hwf : r.Wf) (h3 : cntS op st out < 20000) :
    Calls Tryz.prog 9 #[v, r.val] w fun e w' => ∃ v', e = .returned (.tuple #[v', .int .i64 0]) ∧ SinkAt w' v' (op ++ [r]) st last out ∧ Below w.heap.size w w' ∧ LocK w w' v v' := by
  have HR := Lib.hid (fun v W hW => sright_any op st last out v W hW true h)
  have HM := Lib.hid (fun W => may_any r W true h2)
  have HK := Lib.hid (fun v W hW => cloneR_any op v W hW (by have := (cnt_lens (op := op) (st := st) (out := out) (by omega)).1; omega))
  have hlo := (cnt_lens (op := op) (st := st) (out := out) (by omega)).1
  have HC := Lib.hid (fun v W hW => count_any op st last out v W hW)
  obtain ⟨cn, hcn⟩ : ∃ cn, cntS op st out = cn := ⟨_, rfl⟩
  rw [hcn] at h3 HC
  obtain ⟨vo, vs, vu, ev, hR1, hR2, hR4, hR3⟩ := hv
  have R2 := Lib.hid hR2
  have R3 := Lib.hid hR3
  have hW1 := hR1.2.1
  have H4 := Lib.hid hR4
  have R1 := Lib.hid hR1
  have hv : SinkAt w v op st last out := ⟨vo, vs, vu, ev, hR1, hR2, hR4, hR3⟩
  clear hR1 hR2 hR3 hR4
  obtain ⟨i0, hi, hi0, hi1, hi2⟩ := info_parts info_rs
  have HI := Lib.hid hi
  have HZ0 := Lib.hid hi0
  have HZ1 := Lib.hid hi1
  have HZ2 := Lib.hid hi2
  clear hi hi0 hi1 hi2
  clear h h2 hcn
  have HV := Lib.hid hv
  obtain ⟨A1, c1, A2, c2, A3, c3, ev2⟩ := sink_form hv
  subst ev2
  injection ev with ev
  injection ev with ev
  simp at ev
  obtain ⟨rfl, rfl, rfl⟩ := ev
  obtain ⟨rl, rh, rk, rn, rv⟩ := r
  clear hv
  unfold Res.val at HM ⊢
  skip
  go_enter Tryz.func9, Tryz.ntmps9
  go_wp2_with fail
  obtain ⟨W1, hW1⟩ : ∃ W1, W1 = ((w.alloc (.cells #[.slice A1 op.length c1, .slice A2 st.length c2, .int .i64 last, .slice A3 out.length c3] 33)).alloc (.cells #[.int .i64 rl, .int .i64 rh, .string rk, .int .i64 rn, .int .i64 rv] 37)).alloc (.cells #[.slice none 0 0, .slice none 0 0, .int .i64 0, .slice none 0 0] 33) := ⟨_, rfl⟩
  rw [← hW1]
  have BW := Lib.hid (show Below w.heap.size w W1 by rw [hW1]; exact bel_alloc (bel_alloc (bel_alloc (Below.refl _ _) _) _) _)
  have K2 := Lib.hid (show W1.heap[w.heap.size + 1 + 1]? = some (.cells #[.slice none 0 0, .slice none 0 0, .int .i64 0, .slice none 0 0] 33 (0, 0)) by rw [hW1]; exact heap_at _ _ _ (by simp))
  have K1 := Lib.hid (show W1.heap[w.heap.size + 1]? = some (.cells #[.int .i64 rl, .int .i64 rh, .string rk, .int .i64 rn, .int .i64 rv] 37 (0, 0)) by rw [hW1]; exact heap_below (heap_at (w.alloc _) _ (w.heap.size + 1) (by simp)) (bel_alloc (Below.refl _ _) _))
  have K0 := Lib.hid (show W1.heap[w.heap.size]? = some (.cells #[.slice A1 op.length c1, .slice A2 st.length c2, .int .i64 last, .slice A3 out.length c3] 33 (0, 0)) by rw [hW1]; exact newA (bel_alloc (bel_alloc (Below.refl _ _) _) _))
  clear hW1
  refine (HR.out _ _ (HV.out.below BW.out)).mono ?_
  rintro e w1 ⟨rfl, hb1⟩
  have B1 := Lib.hid (bThen BW.out hb1)
  have L0 := Lib.hid (heap_below K0.out hb1)
  have L1 := Lib.hid (heap_below K1.out hb1)
  have L2 := Lib.hid (heap_below K2.out hb1)
  clear hb1 K0 K1 K2
  have hz2 := blk_lt L2.out
  have hz1 := blk_lt L1.out
  have hz0 := blk_lt L0.out
  have d0 := cellsAt L2.out 0
  have d1 := cellsAt L2.out 1
  have d2 := cellsAt L2.out 2
  have d3 := cellsAt L2.out 3
  have fz := frozAt L2.out
  have s0 := cellsAt L0.out 0
  have s1 := cellsAt L0.out 1
  have s2 := cellsAt L0.out 2
  have s3 := cellsAt L0.out 3
  have sz := frozAt L0.out
  have r0 := cellsAt L1.out 0
  have r1 := cellsAt L1.out 1
  have r2 := cellsAt L1.out 2
  have r3 := cellsAt L1.out 3
  have r4 := cellsAt L1.out 4
  simp at d0 d1 d2 d3 s0 s1 s2 s3 r0 r1 r2 r3 r4
  go_wp2_with fail
  refine (HM.out _).mono ?_
  rintro e w2 ⟨rfl, hb2⟩
  have B2 := Lib.hid (bThen B1.out hb2)
  have M0 := Lib.hid (heap_below L0.out hb2)
  have M1 := Lib.hid (heap_below L1.out hb2)
  have M2 := Lib.hid (heap_below L2.out hb2)
  clear hb2 L0 L1 L2
  clear d0 d1 d2 d3 s0 s1 s2 s3 r0 r1 r2 r3 r4 hz0 hz1 hz2 fz sz
  have hz2 := blk_lt M2.out
  have hz1 := blk_lt M1.out
  have hz0 := blk_lt M0.out
  have d0 := cellsAt M2.out 0
  have d1 := cellsAt M2.out 1
  have d2 := cellsAt M2.out 2
  have d3 := cellsAt M2.out 3
  have fz := frozAt M2.out
  have s0 := cellsAt M0.out 0
  have s1 := cellsAt M0.out 1
  have s2 := cellsAt M0.out 2
  have s3 := cellsAt M0.out 3
  have sz := frozAt M0.out
  have r0 := cellsAt M1.out 0
  have r1 := cellsAt M1.out 1
  have r2 := cellsAt M1.out 2
  have r3 := cellsAt M1.out 3
  have r4 := cellsAt M1.out 4
  simp at d0 d1 d2 d3 s0 s1 s2 s3 r0 r1 r2 r3 r4
  go_wp2_with fail
  refine (HC.out _ _ (HV.out.below B2.out)).mono ?_
  rintro e w3 ⟨rfl, hb3⟩
  have B3 := Lib.hid (bThen B2.out hb3)
  have N0 := Lib.hid (heap_below M0.out hb3)
  have N1 := Lib.hid (heap_below M1.out hb3)
  have N2 := Lib.hid (heap_below M2.out hb3)
  clear hb3 M0 M1 M2
  clear d0 d1 d2 d3 s0 s1 s2 s3 r0 r1 r2 r3 r4 hz0 hz1 hz2 fz sz
  have hz2 := blk_lt N2.out
  have hz1 := blk_lt N1.out
  have hz0 := blk_lt N0.out
  have d0 := cellsAt N2.out 0
  have d1 := cellsAt N2.out 1
  have d2 := cellsAt N2.out 2
  have d3 := cellsAt N2.out 3
  have fz := frozAt N2.out
  have s0 := cellsAt N0.out 0
  have s1 := cellsAt N0.out 1
  have s2 := cellsAt N0.out 2
  have s3 := cellsAt N0.out 3
  have sz := frozAt N0.out
  have r0 := cellsAt N1.out 0
  have r1 := cellsAt N1.out 1
  have r2 := cellsAt N1.out 2
  have r3 := cellsAt N1.out 3
  have r4 := cellsAt N1.out 4
  simp at d0 d1 d2 d3 s0 s1 s2 s3 r0 r1 r2 r3 r4
  go_wp2_with fail
  have R1' := R1.out.1.below B3.out
  go_region_law (first | (go_simp; go_at_call 34; refine (HK.out _ _ (by first | assumption | exact Row.alloc (by assumption) _)).mono ?_; rintro e w4 ⟨v4, rfl, hown, hb4⟩; obtain ⟨A4, c4, rfl⟩ := own_slice hown; try have q0 := (hb4.cell (p := ⟨w.heap.size + 1, 0, none⟩) (by assumption)).trans (by assumption : _ = some (Value.int .i64 rl)); try have q1 := (hb4.cell (p := ⟨w.heap.size + 1, 1, none⟩) (by assumption)).trans (by assumption : _ = some (Value.int .i64 rh)); try have q2 := (hb4.cell (p := ⟨w.heap.size + 1, 2, none⟩) (by assumption)).trans (by assumption : _ = some (Value.string rk)); try have q3 := (hb4.cell (p := ⟨w.heap.size + 1, 3, none⟩) (by assumption)).trans (by assumption : _ = some (Value.int .i64 rn)); try have q4 := (hb4.cell (p := ⟨w.heap.size + 1, 4, none⟩) (by assumption)).trans (by assumption : _ = some (Value.int .i64 rv)); try have q5 := (hb4.frozen (p := ⟨w.heap.size, 0, none⟩) (by assumption)).trans (by assumption : _ = false); try have q6 := (hb4.cell (p := ⟨w.heap.size, 0, none⟩) (by assumption)).trans (by assumption : _ = some (Value.slice A1 op.length c1)); have q7 := hb4.size) | (refine step_own rfl _ _ 25 rfl _ 37 i0 (.agg #[.int .i64 0, .int .i64 0, .string ⟨#[]⟩, .int .i64 0, .int .i64 0]) 5 48 Tryz.underlying25 HI.out HZ0.out HZ1.out HZ2.out rfl (by decide) _ _ _ rfl (by first | exact hown | exact hown.alloc _) _ 1 1 [.int .i64 rl, .int .i64 rh, .string rk, .int .i64 rn, .int .i64 rv] rfl rfl (by intro j u hj; match j, hj with | 0, hj | 1, hj | 2, hj | 3, hj | 4, hj => (simp at hj; subst hj; first | (simp [Addr.add]; done) | (refine (hb4.cell (by simp [Addr.add])).trans ?_; simp [Addr.add]))) (by intro u hu; simp at hu; rcases hu with rfl | rfl | rfl | rfl | rfl <;> rfl) (by unfold maxLen; omega) (by omega) (by have q7 := hb4.size; simp at q7 ⊢; omega) ?_; intro v5 W5 hown5 hgrow5 _; obtain ⟨A5, c5, rfl⟩ := own_slice hown5; have BG : Below w3.heap.size w3 W5 := (by first | exact bUndrew ((bel_alloc hb4 _).grown hgrow5 (by have q7 := hb4.size; simp at q7 ⊢; try omega) (fun q hq => by have := (hown.lt _ hq).1; simp at this ⊢; omega)) | exact ((belA (Below.refl _ _) (bUndrew hb4)).grown hgrow5 (by have q7 := hb4.size; simp at q7 ⊢; try omega) (fun q hq => by have := (hown.lt _ hq).1; simp at this ⊢; omega))); have q8 := (BG.cell (p := ⟨w.heap.size, 0, none⟩) hz0).trans s0; have q9 := (BG.frozen (p := ⟨w.heap.size, 0, none⟩) hz0).trans (sz 0)))
  all_goals
    have BG' := Lib.hid BG
    have P2 := (Below.heap_setCell W5 ⟨w.heap.size, 0, none⟩ (.slice A5 (op.length + 1) c5) (w.heap.size + 1 + 1) (by simp; try omega)).trans (heap_below N2.out BG)
    have P0 := blk_set (heap_below N0.out BG) 0 (.slice A5 (op.length + 1) c5)
    have BS := Lib.hid ((bThen B3.out BG).setCell (p := ⟨w.heap.size, 0, none⟩) (Nat.le_refl _) (.slice A5 (op.length + 1) c5))
    have hsz4 := hb4.size
    have HO5 := Lib.hid (own_base (own_set hown5 (p := ⟨w.heap.size, 0, none⟩) (by show w.heap.size < _; simp; try omega) (.slice A5 (op.length + 1) c5)) (by show w.heap.size + 1 + 1 + 1 ≤ _; simp; try omega))
    clear BG q8 q9 hown5 hgrow5 hb4 hown hsz4
    simp at P0
    generalize W5.setCell ⟨w.heap.size, 0, none⟩ (.slice A5 (op.length + 1) c5) = W6 at *
    have s0' := cellsAt P0 0
    have s1' := cellsAt P0 1
    have s2' := cellsAt P0 2
    have s3' := cellsAt P0 3
    have d0' := cellsAt P2 0
    have d1' := cellsAt P2 1
    have d2' := cellsAt P2 2
    have d3' := cellsAt P2 3
    have fz' := frozAt P2
    simp at s0' s1' s2' s3' d0' d1' d2' d3'
    go_wp2_with fail
    have E := set4 P2 (.slice A5 (op.length + 1) c5) (.slice A2 st.length c2) (.int .i64 last) (.slice A3 out.length c3)
    have BE := Lib.hid (bel4 BS.out (g := w.heap.size + 1 + 1) (by omega) (.slice A5 (op.length + 1) c5) (.slice A2 st.length c2) (.int .i64 last) (.slice A3 out.length c3))
    have HO6 := Lib.hid (own_set (own_set (own_set (own_set HO5.out (p := ⟨w.heap.size + 1 + 1, 0, none⟩) (by show w.heap.size + 1 + 1 < _; omega) (.slice A5 (op.length + 1) c5)) (p := ⟨w.heap.size + 1 + 1, 1, none⟩) (by show w.heap.size + 1 + 1 < _; omega) (.slice A2 st.length c2)) (p := ⟨w.heap.size + 1 + 1, 2, none⟩) (by show w.heap.size + 1 + 1 < _; omega) (.int .i64 last)) (p := ⟨w.heap.size + 1 + 1, 3, none⟩) (by show w.heap.size + 1 + 1 < _; omega) (.slice A3 out.length c3))
    clear d0' d1' d2' d3' fz' s0' s1' s2' s3' P0 P2
    generalize ((((W6.setCell ⟨w.heap.size + 1 + 1, 0, none⟩ (.slice A5 (op.length + 1) c5)).setCell ⟨w.heap.size + 1 + 1, 1, none⟩ (.slice A2 st.length c2)).setCell ⟨w.heap.size + 1 + 1, 2, none⟩ (.int .i64 last)).setCell ⟨w.heap.size + 1 + 1, 3, none⟩ (.slice A3 out.length c3)) = W7 at *
    have e0 := cellsAt E 0
    have e1 := cellsAt E 1
    have e2 := cellsAt E 2
    have e3 := cellsAt E 3
    simp at e0 e1 e2 e3
    refine bodyPost_ret (v := .tuple #[.agg #[.slice A5 (op.length + 1) c5, .slice A2 st.length c2, .int .i64 last, .slice A3 out.length c3], .int .i64 0]) (by simp [results, Tryz.results9, go_sem, e0, e1, e2, e3]) rfl ⟨_, rfl, ⟨_, _, _, rfl, ⟨Row.of_own Res.cs_len (n := op.length + 1) (by rw [List.flatMap_append]; exact HO6.out) (by simp), ?_, ?_⟩, ⟨R2.out.1.below BE.out, fun x hx => (R2.out.2.1 x hx).below BE.out, R2.out.2.2⟩, H4.out, R3.out.below BE.out⟩, BE.out, ⟨_, _, _, _, _, _, _, _, rfl, rfl, src_own HO6.out (by omega), .inl rfl, .inl rfl⟩⟩
    · intro x hx
      rcases List.mem_append.1 hx with h | h
      · exact hW1 x h
      · simp at h; subst h; exact hwf
    · simp; unfold maxLen; omega
end Go.Proofs.YtlboehpgpbchhaaGreat.Itm
