/-
  WALKS of the top laws: panes on their way take an event.
-/
import Derived.Test.YtlboehpgpbchhaaTopW14
import Derived.Test.YtlboehpgpbchhaaTopW17
import Derived.Test.YtlboehpgpbchhaaTopW18
import Derived.Deep.RegionHeldLaw
set_option linter.unusedVariables false
set_option linter.unusedSimpArgs false
namespace Go.Proofs.Ytlboehpgpbchhaa
open Go.RowKit

/-- The gatherer's object. -/
def gCs (j : Jb) (vl : Value) (bad : Int) : Array Value := #[.int .i64 j.g, .int .i64 j.s, .int .i64 j.d, .int .i64 j.f, .int .i64 j.u, .int .i64 j.l, .int .i64 j.y, .int .i64 j.i, vl, .int .i64 bad]
/-- One event for which there is one window. -/
def oneE (j : Jb) (e : Ev) : Prop := j.s = 1 ∧ j.d = 1 ∧ e.t = 0 ∧ fR j.f = true ∧ pmB ⟨0, 1, e.k, 1, 0, 0⟩ = true
/-- Panes of a gatherer. -/
def GaAt (gp B0 c : Nat) (j : Jb) (vl : Value) (l : List Pn) (W : World) : Prop :=
  (∃ bad, W.heap[gp]? = some (.cells (gCs j vl bad) 117 (0, 0))) ∧ W.ownsRow B0 59 6 vl l.length (l.flatMap Pn.cs) ∧ l.length ≤ c ∧ PnsM (c + 1) l
def TkTo (gp B0 c : Nat) (j : Jb) (l : List Pn) (e : Ev) (w : World) (r : Ending) (w' : World) : Prop :=
  (∃ (ok : Bool) (vl' : Value) (l' : List Pn), r = .returned (.bool ok) ∧ GaAt gp B0 (c + 16) j vl' l' w' ∧ (l = [] → oneE j e → ok = true ∧ l'.length = 1 ∧ prB l' = true)) ∧ w.grownBy w' (some gp)
def TkRel (gp B0 c : Nat) (j : Jb) (l : List Pn) (e : Ev) (ws : List Wn) (vw : Value) (w : World) (i : Value) (wr : World) : Prop :=
  ∃ (k : Nat) (vl' : Value) (l' : List Pn), k ≤ ws.length ∧ i = .int .i64 k ∧ GaAt gp B0 (c + k) j vl' l' wr ∧ (l = [] → oneE j e → l'.length = k ∧ (0 < k → prB l' = true)) ∧ w.grownBy wr (some gp) ∧
    wr.ownsRow w.heap.size 55 2 vw ws.length (ws.flatMap Wn.cs) ∧ wr.heap[w.heap.size]? = some (.cells #[.string e.k, .int .i64 e.t, .int .i64 e.v] 93 (0, 0))
theorem pnsM_le {a b : Int} {l : List Pn} (h : PnsM a l) (hab : a ≤ b) : PnsM b l := fun q hq => ⟨(h q hq).1, (h q hq).2.1, by have := (h q hq).2.2; omega⟩
theorem prB_one {f : Int} {l : List Pn} {k : ByteArray} {lo hi a b : Int} (h : adB f l k lo hi = true) : prB [⟨lo, hi, k, 1, a, b⟩] = true := by
  have hp : pmB ⟨lo, hi, k, 1, a, b⟩ = true := by
    unfold adB at h
    simp only [Bool.and_eq_true] at h
    exact h.2.2
  unfold prB
  have hr : (List.range [(⟨lo, hi, k, 1, a, b⟩ : Pn)].length).all (pokAt [⟨lo, hi, k, 1, a, b⟩]) = true := by
    rw [show [(⟨lo, hi, k, 1, a, b⟩ : Pn)].length = 0 + 1 from rfl, pall_succ]
    unfold pokAt
    rw [show [(⟨lo, hi, k, 1, a, b⟩ : Pn)][0]! = ⟨lo, hi, k, 1, a, b⟩ from rfl, hp]
    rfl
  rw [hr]
  rfl
theorem ad_two {m f : Int} {l : List Pn} {k : ByteArray} {lo hi : Int} {w w' : World} {e : Ending} (h : AdTo m f l k lo hi w e w') :
    ∃ (A : Option Addr) (n c : Nat) (er : Int), e = .returned (.tuple #[.slice A n c, .int .i64 er]) ∧ (er = 0 ∨ er = 1 ∨ er = 3) ∧ AdTo m f l k lo hi w (.returned (.tuple #[.slice A n c, .int .i64 er])) w' := by
  obtain ⟨h, hb⟩ := h
  unfold AdTo
  by_cases ha : adB f l k lo hi = true
  · rw [if_pos ha] at h
    rcases h with ⟨h1, rfl⟩ | ⟨v', l', a, b, rfl, h2, h3⟩
    · exact ⟨_, _, _, _, rfl, .inr (.inr rfl), by rw [if_pos ha]; exact .inl ⟨h1, rfl⟩, hb⟩
    · obtain ⟨A, c, rfl⟩ := own_slice h2
      exact ⟨_, _, _, _, rfl, .inl rfl, by rw [if_pos ha]; exact .inr ⟨_, l', a, b, rfl, h2, h3⟩, hb⟩
  · rw [if_neg ha] at h
    subst h
    exact ⟨_, _, _, _, rfl, .inr (.inl rfl), by rw [if_neg ha], hb⟩
theorem ad_ok {m f : Int} {l : List Pn} {k : ByteArray} {lo hi : Int} {w w' : World} {A : Option Addr} {n c : Nat} (h : AdTo m f l k lo hi w (.returned (.tuple #[.slice A n c, .int .i64 0])) w') :
    ∃ (l' : List Pn), n = l'.length ∧ w'.ownsRow w.heap.size 59 6 (.slice A n c) l'.length (l'.flatMap Pn.cs) ∧ l'.length ≤ l.length + 1 ∧ (l = [] → l'.length = 1 ∧ prB l' = true) ∧ PnsM (m + 1) l' := by
  obtain ⟨h, hb⟩ := h
  by_cases ha : adB f l k lo hi = true
  · rw [if_pos ha] at h
    rcases h with ⟨h1, h2⟩ | ⟨v', l', a, b, h1, h2, h3, h4, h5⟩
    · injection h2 with h2
      injection h2 with h2
      simp at h2
    · injection h1 with h1
      injection h1 with h1
      simp at h1
      subst h1
      obtain ⟨A2, c2, he⟩ := own_slice h2
      injection he with _ he _
      exact ⟨l', he, h2, h3, fun h => ⟨by rw [h4 h]; rfl, by rw [h4 h]; exact prB_one ha⟩, h5⟩
  · rw [if_neg ha] at h
    injection h with h
    injection h with h
    simp at h
theorem ad_bad {m f : Int} {k : ByteArray} {lo hi : Int} {w w' : World} {A : Option Addr} {n c : Nat} {er : Int} (h : AdTo m f [] k lo hi w (.returned (.tuple #[.slice A n c, .int .i64 er])) w') (her : er ≠ 0) (hf : fR f = true) (hp : pmB ⟨lo, hi, k, 1, 0, 0⟩ = true) : False := by
  obtain ⟨h, hb⟩ := h
  have ha : adB f [] k lo hi = true := by unfold adB; rw [hf, hp]; decide
  rw [if_pos ha] at h
  rcases h with ⟨h1, -⟩ | ⟨v', l', a, b, h1, -⟩
  · simp at h1
  · injection h1 with h1
    injection h1 with h1
    simp at h1
    exact her h1.2
set_option maxRecDepth 100000 in
set_option maxHeartbeats 4000000 in
theorem take_any (gp B0 c : Nat) (j : Jb) (vl : Value) (l : List Pn) (e : Ev) (w : World) (hg : GaAt gp B0 c j vl l w) (hgB : gp < B0) (hB0 : B0 ≤ w.heap.size) (hc : c ≤ 4000) (he : e.Wf) (ht : 0 ≤ e.t) (ht2 : e.t < 1099511627776) (hR : wR j.s j.d = true) :
    Calls Try.prog 70 #[.pointer (some ⟨gp, 0, none⟩), e.val] w (TkTo gp B0 c j l e w) := by
  obtain ⟨⟨bad, hgc⟩, hown, hlc, hM⟩ := hg
  have HO := Lib.hid hown
  have HM := Lib.hid hM
  have HLC := Lib.hid hlc
  have HGC := Lib.hid hgc
  have HE := Lib.hid he
  have HF := Lib.hid (fun w => of_any j.s j.d e.t w hR ht ht2)
  have HONE := Lib.hid (show oneE j e ↔ j.s = 1 ∧ j.d = 1 ∧ e.t = 0 ∧ fR j.f = true ∧ pmB ⟨0, 1, e.k, 1, 0, 0⟩ = true from Iff.rfl)
  have HT := Lib.hid (show e.t = e.t from rfl)
  obtain ⟨jg, js, jd, jf, ju, jl, jy, ji⟩ := j
  obtain ⟨k, t, v⟩ := e
  unfold Ev.val
  simp only at HF HONE ⊢
  clear hgc hown hlc hM he hR HT ht ht2
  go_enter Try.func70, Try.ntmps70
  go_upto_region 1 with fail
  obtain ⟨W2, hW2⟩ : ∃ X, X = w.alloc (.cells #[.string k, .int .i64 t, .int .i64 v] 93) := ⟨_, rfl⟩
  rw [← hW2]
  have B2 := Lib.hid (show Below w.heap.size w W2 by rw [hW2]; exact bel_alloc (Below.refl _ _) _)
  have Be := Lib.hid (show W2.heap[w.heap.size]? = some (.cells #[.string k, .int .i64 t, .int .i64 v] 93 (0, 0)) by rw [hW2]; exact heap_at _ _ _ rfl)
  have Bg := Lib.hid (heap_below HGC.out B2.out)
  clear hW2
  have zg := blk_lt Bg.out
  have g1 := cellsAt Bg.out 1
  have g2 := cellsAt Bg.out 2
  have ze := blk_lt Be.out
  have e1 := cellsAt Be.out 1
  simp [gCs] at g1 g2 e1
  have MK := Lib.hid (show ∀ w', Below W2.heap.size W2 w' → (fun w' => Below W2.heap.size W2 w' ∧ w'.cell? ⟨gp, 1, none⟩ = some (.int .i64 js) ∧ w'.cell? ⟨gp, 2, none⟩ = some (.int .i64 jd) ∧ w'.cell? ⟨w.heap.size, 1, none⟩ = some (.int .i64 t)) w' from fun w' hb => ⟨hb, (hb.cell (p := ⟨gp, 1, none⟩) zg).trans g1, (hb.cell (p := ⟨gp, 2, none⟩) zg).trans g2, (hb.cell (p := ⟨w.heap.size, 1, none⟩) ze).trans e1⟩)
  have hS := MK.out W2 (Below.refl _ _)
  go_region_held_law (fun w' => Below W2.heap.size W2 w' ∧ w'.cell? ⟨gp, 1, none⟩ = some (.int .i64 js) ∧ w'.cell? ⟨gp, 2, none⟩ = some (.int .i64 jd) ∧ w'.cell? ⟨w.heap.size, 1, none⟩ = some (.int .i64 t)) (first | assumption | exact MK.out _ (Below.drew (And.left (by assumption))) | exact MK.out _ (bThen (And.left (by assumption)) (by assumption)) | exact MK.out _ (bel_alloc (And.left (by assumption)) _)) (first | (go_at_call 86; refine (HF.out _).mono ?_; rintro e w4 ⟨vw, ws, rfl, how, hwl, hwi, hw1, hb4⟩; obtain ⟨Aw, cw, rfl⟩ := own_slice how))
  rename_i hHeld
  clear hHeld MK hS
  have B3 := Lib.hid (show Below w.heap.size w W2.drew from Below.drew B2.out)
  have Be3 := Lib.hid (show W2.drew.heap[w.heap.size]? = some (.cells #[.string k, .int .i64 t, .int .i64 v] 93 (0, 0)) from Be.out)
  clear zg g1 g2 ze e1 B2 Be Bg
  have HOW := Lib.hid (own_base how B3.out.size)
  have HWL := Lib.hid hwl
  have HWI := Lib.hid hwi
  have HW1 := Lib.hid hw1
  have B4 := Lib.hid (bThen B3.out hb4)
  have Be4 := Lib.hid (heap_below Be3.out hb4)
  clear hwl hwi hw1 hb4 B3 Be3 HF
  clear how
  obtain ⟨nw, hnw⟩ : ∃ n, ws.length = n := ⟨_, rfl⟩
  have HNW := Lib.hid hnw
  rw [hnw] at HOW HWL ⊢
  clear hnw
  have hnw16 : nw ≤ 16 := HWL.out
  go_wp2_with fail
  go_loopw [23] (fun i wr => TkRel gp B0 c ⟨jg, js, jd, jf, ju, jl, jy, ji⟩ l ⟨k, t, v⟩ ws (.slice Aw nw cw) w i wr) (fun i _ => nw - (intOf i).toNat)
  case atStart => exact ⟨0, vl, l, Nat.zero_le _, rfl, ⟨⟨bad, heap_below HGC.out B4.out⟩, own_below HO.out B4.out, HLC.out, HM.out⟩, fun h _ => ⟨by rw [h]; rfl, fun h => absurd h (by decide)⟩, gby_of _ B4.out, by rw [HNW.out]; exact HOW.out, Be4.out⟩
  case round =>
    obtain ⟨i, vl', l', hi, rfl, ⟨⟨bad', hg'⟩, ho', hl', hM'⟩, hone, hgr, hows, hev⟩ := hrel
    rw [HNW.out] at hi hows
    have HL' := Lib.hid hl'
    have HM' := Lib.hid hM'
    have HONE' := Lib.hid hone
    have GR := Lib.hid hgr
    have OW := Lib.hid hows
    have OL := Lib.hid ho'
    have BG := Lib.hid hg'
    have BE := Lib.hid (show wr.heap[w.heap.size]? = some (.cells #[.string k, .int .i64 t, .int .i64 v] 93 (0, 0)) from hev)
    clear hg' ho' hl' hM' hone hgr hows hev
    by_cases hlt : i < nw
    rotate_left
    · obtain rfl : i = nw := by omega
      go_wp2_with fail
      go_ret
      refine ⟨⟨true, vl', l', rfl, ⟨⟨bad', BG.out⟩, OL.out, by have := HL'.out; omega, pnsM_le HM'.out (by omega)⟩, fun h h2 => ⟨rfl, ?_⟩⟩, GR.out⟩
      have h3 := HONE.out.1 h2
      have h4 := HNW.out
      rw [HW1.out ⟨h3.1, h3.2.1, h3.2.2.1⟩] at h4
      have h5 := HONE'.out h h2
      have h6 : i = 1 := h4.symm
      exact ⟨by rw [h5.1, h6], h5.2 (by omega)⟩
    obtain ⟨x, hx⟩ : ∃ x, ws[i]? = some x := ⟨_, List.getElem?_eq_getElem (by rw [HNW.out]; exact hlt)⟩
    have hrow := Row.of_own Wn.cs_len OW.out HNW.out.symm
    obtain ⟨b, o, c', hv', -, hb, hX⟩ := hrow.at_ hx
    rw [HNW.out] at hv'
    injection hv' with e1 e2 e3
    subst e1 e3
    have c0 := hX 0 _ rfl
    have c1 := hX 1 _ rfl
    simp only [Nat.add_zero] at c0 c1
    have HX := Lib.hid hx
    have HXI := Lib.hid (HWI.out x (List.mem_of_getElem? hx))
    obtain ⟨xl, xh⟩ := x
    simp only at c0 c1
    clear hX hrow hx e2
    have hI : (i : Int) < (nw : Int) := by omega
    go_upto_region 4 with fail
    obtain ⟨W5, hW5⟩ : ∃ X, X = wr.alloc (.cells #[.int .i64 xl, .int .i64 xh] 55) := ⟨_, rfl⟩
    rw [← hW5]
    have B5 := Lib.hid (show Below wr.heap.size wr W5 by rw [hW5]; exact bel_alloc (Below.refl _ _) _)
    have Bx := Lib.hid (show W5.heap[wr.heap.size]? = some (.cells #[.int .i64 xl, .int .i64 xh] 55 (0, 0)) by rw [hW5]; exact heap_at _ _ _ rfl)
    clear hW5 c0 c1 hb
    obtain ⟨Al, cl, hal⟩ := own_slice OL.out
    obtain ⟨nl, hnl⟩ : ∃ n, l'.length = n := ⟨_, rfl⟩
    have HNL := Lib.hid hnl
    rw [hnl] at hal
    subst hal
    clear hnl
    have OL5 := Lib.hid (own_below OL.out B5.out)
    have OW5 := Lib.hid (own_below OW.out B5.out)
    have GR5 := Lib.hid (gby_bel GR.out B5.out)
    have BE5 := Lib.hid (heap_below BE.out B5.out)
    have BG5 := Lib.hid (heap_below BG.out B5.out)
    have hwr : w.heap.size ≤ wr.heap.size := GR.out.size
    have HWR := Lib.hid hwr
    clear OL OW GR BE BG B5 hwr
    have zg := blk_lt BG5.out
    have g3 := cellsAt BG5.out 3
    have g8 := cellsAt BG5.out 8
    have ze := blk_lt BE5.out
    have e0 := cellsAt BE5.out 0
    have e2 := cellsAt BE5.out 2
    have zx := blk_lt Bx.out
    have x0 := cellsAt Bx.out 0
    have x1 := cellsAt Bx.out 1
    simp [gCs] at g3 g8 e0 e2 x0 x1
    have MK := Lib.hid (show ∀ w', Below W5.heap.size W5 w' → (fun w' => Below W5.heap.size W5 w' ∧ w'.cell? ⟨gp, 8, none⟩ = some (.slice Al nl cl) ∧ w'.cell? ⟨gp, 3, none⟩ = some (.int .i64 jf) ∧ w'.cell? ⟨w.heap.size, 0, none⟩ = some (.string k) ∧ w'.cell? ⟨wr.heap.size, 0, none⟩ = some (.int .i64 xl) ∧ w'.cell? ⟨wr.heap.size, 1, none⟩ = some (.int .i64 xh) ∧ w'.cell? ⟨w.heap.size, 2, none⟩ = some (.int .i64 v)) w' from fun w' hb => ⟨hb, (hb.cell (p := ⟨gp, 8, none⟩) zg).trans g8, (hb.cell (p := ⟨gp, 3, none⟩) zg).trans g3, (hb.cell (p := ⟨w.heap.size, 0, none⟩) ze).trans e0, (hb.cell (p := ⟨wr.heap.size, 0, none⟩) zx).trans x0, (hb.cell (p := ⟨wr.heap.size, 1, none⟩) zx).trans x1, (hb.cell (p := ⟨w.heap.size, 2, none⟩) ze).trans e2⟩)
    have hS := MK.out W5 (Below.refl _ _)
    go_region_held_law (fun w' => Below W5.heap.size W5 w' ∧ w'.cell? ⟨gp, 8, none⟩ = some (.slice Al nl cl) ∧ w'.cell? ⟨gp, 3, none⟩ = some (.int .i64 jf) ∧ w'.cell? ⟨w.heap.size, 0, none⟩ = some (.string k) ∧ w'.cell? ⟨wr.heap.size, 0, none⟩ = some (.int .i64 xl) ∧ w'.cell? ⟨wr.heap.size, 1, none⟩ = some (.int .i64 xh) ∧ w'.cell? ⟨w.heap.size, 2, none⟩ = some (.int .i64 v)) (first | assumption | exact MK.out _ (Below.drew (And.left (by assumption))) | exact MK.out _ (bThen (And.left (by assumption)) (by assumption)) | exact MK.out _ (bel_alloc (And.left (by assumption)) _)) (first | (go_at_call 87; refine (padd_any ((c + i : Nat) + 1) jf l' k xl xh v (.slice Al nl cl) W5.drew (Row.of_own Pn.cs_len (own_below OL5.out (Below.drew (Below.refl _ _))) rfl) (by have := HL'.out; unfold maxLen; omega) (by omega) (by omega) HM'.out HE.out.1 HXI.out.1 HXI.out.2 HE.out.2.2).mono ?_; rintro e w6 had0; obtain ⟨A6, n6, c6, er, rfl, her, had⟩ := ad_two had0; have hb6 := had.2))
    rename_i hHeld
    have HAD := Lib.hid had
    have GR6 := Lib.hid (gby_bel (gby_drew GR5.out) hb6)
    have OL6 := Lib.hid (own_below OL5.out (bUndrew hb6))
    have OW6 := Lib.hid (own_below OW5.out (bUndrew hb6))
    have BE6 := Lib.hid (heap_below BE5.out (bUndrew hb6))
    have BG6 := Lib.hid (heap_below BG5.out (bUndrew hb6))
    have HS6 := Lib.hid (show B0 ≤ W5.drew.heap.size from Nat.le_trans hB0 GR5.out.size)
    clear hHeld MK hS zg g3 g8 ze e0 e2 zx x0 x1 had0 had hb6 OL5 OW5 GR5 BE5 BG5 Bx
    have zg := blk_lt BG6.out
    have g8 := cellsAt BG6.out 8
    have g9 := cellsAt BG6.out 9
    have fg := frozAt BG6.out
    simp [gCs] at g8 g9
    rcases her with rfl | rfl | rfl
    · obtain ⟨l6, hn6, ho6, hl6, h16, hM6⟩ := ad_ok HAD.out
      have HO6 := Lib.hid (own_base ho6 HS6.out)
      have HL6 := Lib.hid hl6
      have H16 := Lib.hid h16
      have HM6 := Lib.hid hM6
      have HN6 := Lib.hid hn6
      clear hn6 ho6 hl6 h16 hM6
      go_wp2_with fail
      go_roundw
      case rel =>
        have hG : (w6.setCell ⟨gp, 8, none⟩ (.slice A6 n6 c6)).heap[gp]? = some (.cells (gCs ⟨jg, js, jd, jf, ju, jl, jy, ji⟩ (.slice A6 n6 c6) bad') 117 (0, 0)) := blk_set BG6.out 8 _
        refine ⟨i + 1, _, l6, by rw [HNW.out]; omega, by go_num, ⟨⟨_, hG⟩, own_set HO6.out (p := ⟨gp, 8, none⟩) hgB _, by have := HL6.out; have := HL'.out; omega, pnsM_le HM6.out (by omega)⟩, fun h h2 => ?_, gby_set GR6.out 8 _, by rw [HNW.out]; exact own_set OW6.out (p := ⟨gp, 8, none⟩) (Nat.lt_of_lt_of_le hgB hB0) _, heap_grown' BE6.out (grown_set _ _ _) (by simp; omega)⟩
        have h3 := HONE.out.1 h2
        have h4 := HW1.out ⟨h3.1, h3.2.1, h3.2.2.1⟩
        have h5 := HNW.out
        rw [h4] at h5
        have h7 : i = 0 := by simp at h5; omega
        subst h7
        have h8 := HONE'.out h h2
        have h9 : l' = [] := List.eq_nil_of_length_eq_zero h8.1
        exact ⟨(H16.out h9).1, fun _ => (H16.out h9).2⟩
      case measure => simp [intOf]; omega
    · have HAD := HAD
      go_wp2_with fail
      go_ret
      have hG : (w6.setCell ⟨gp, 9, none⟩ (.int .i64 1)).heap[gp]? = some (.cells (gCs ⟨jg, js, jd, jf, ju, jl, jy, ji⟩ (.slice Al nl cl) 1) 117 (0, 0)) := blk_set BG6.out 9 _
      refine ⟨⟨false, _, l', rfl, ⟨⟨_, hG⟩, own_set OL6.out (p := ⟨gp, 9, none⟩) hgB _, by have := HL'.out; omega, pnsM_le HM'.out (by omega)⟩, fun h h2 => ?_⟩, gby_set GR6.out 9 _⟩
      exfalso
      have h3 := HONE.out.1 h2
      have h4 := HW1.out ⟨h3.1, h3.2.1, h3.2.2.1⟩
      have h5 := HNW.out
      have h6 := HX.out
      rw [h4] at h5 h6
      have h7 : i = 0 := by simp at h5; omega
      subst h7
      simp at h6
      obtain ⟨rfl, rfl⟩ := h6
      have h8 := HONE'.out h h2
      have h9 : l' = [] := List.eq_nil_of_length_eq_zero h8.1
      subst h9
      exact ad_bad HAD.out (by decide) h3.2.2.2.1 h3.2.2.2.2
    · have HAD := HAD
      go_wp2_with fail
      go_ret
      have hG : (w6.setCell ⟨gp, 9, none⟩ (.int .i64 3)).heap[gp]? = some (.cells (gCs ⟨jg, js, jd, jf, ju, jl, jy, ji⟩ (.slice Al nl cl) 3) 117 (0, 0)) := blk_set BG6.out 9 _
      refine ⟨⟨false, _, l', rfl, ⟨⟨_, hG⟩, own_set OL6.out (p := ⟨gp, 9, none⟩) hgB _, by have := HL'.out; omega, pnsM_le HM'.out (by omega)⟩, fun h h2 => ?_⟩, gby_set GR6.out 9 _⟩
      exfalso
      have h3 := HONE.out.1 h2
      have h4 := HW1.out ⟨h3.1, h3.2.1, h3.2.2.1⟩
      have h5 := HNW.out
      have h6 := HX.out
      rw [h4] at h5 h6
      have h7 : i = 0 := by simp at h5; omega
      subst h7
      simp at h6
      obtain ⟨rfl, rfl⟩ := h6
      have h8 := HONE'.out h h2
      have h9 : l' = [] := List.eq_nil_of_length_eq_zero h8.1
      subst h9
      exact ad_bad HAD.out (by decide) h3.2.2.2.1 h3.2.2.2.2
end Go.Proofs.Ytlboehpgpbchhaa
