/-
  WALKS: the texts -StoreW1, -StoreW2, -StoreW3, -StoreW4, -StoreW5, -StoreW6, -StoreW7, -StoreW9, -StoreW10, StoreW11, StoreW12, StoreW13, StoreW14, but for what speaks of functions that are not here (progonly.py).
-/
import Derived.Test.YtlboehpgpbchhaaGreatStoreT2
set_option linter.unusedVariables false
set_option linter.unusedSimpArgs false

namespace Go.Proofs.YtlboehpgpbchhaaGreat.Sto
open Go.RowKit
theorem StAt.form3 {W : World} {v : Value} {s : St} (h : StAt W v s) : ∃ A1 n1 c1 A2 n2 c2, v = .agg #[.slice A1 n1 c1, .slice A2 n2 c2, .bool s.d] ∧ n1 = s.c.length ∧ n2 = s.f.length := by
  obtain ⟨A1, c1, A2, c2, e, -⟩ := h.form
  exact ⟨A1, _, c1, A2, _, c2, e, rfl, rfl⟩
theorem StAt.rows {W : World} {A1 A2 : Option Addr} {n1 n2 c1 c2 : Nat} {d : Bool} {s : St} (h : StAt W (.agg #[.slice A1 n1 c1, .slice A2 n2 c2, .bool d]) s) : OkRow W (.slice A1 n1 c1) s.c ∧ OkRow W (.slice A2 n2 c2) s.f := by
  obtain ⟨vc, vf, e, h1, h2⟩ := h
  injection e with e
  injection e with e
  simp at e
  obtain ⟨rfl, rfl, -⟩ := e
  exact ⟨h1, h2⟩
/-- A block without texts: no row of cells lies in it. -/
def NoStr (W : World) (g : Nat) : Prop := ∃ (cs : Array Value) (T : TypeId), W.heap[g]? = some (.cells cs T (0, 0)) ∧ ∀ (j : Nat) (s : ByteArray), cs[j]? ≠ some (Value.string s)
theorem NoStr.set {W : World} {g : Nat} (h : NoStr W g) (k : Nat) {u : Value} (hu : ∀ s, u ≠ .string s) : NoStr (W.setCell ⟨g, k, none⟩ u) g := by
  obtain ⟨cs, T, h1, h2⟩ := h
  refine ⟨_, T, blk_set h1 k u, fun j s => ?_⟩
  rw [Array.getElem?_setIfInBounds]
  split
  · split
    · simp only [ne_eq, Option.some.injEq]; exact hu s
    · simp
  · exact h2 j s
theorem NoStr.below {W W' : World} {g : Nat} (h : NoStr W g) (hb : Below W.heap.size W W') : NoStr W' g := by
  obtain ⟨cs, T, h1, h2⟩ := h
  exact ⟨cs, T, heap_below h1 hb, h2⟩
theorem Row.setG {W : World} {v : Value} {l : List Cl} (h : Row Cl.cs 2 W v l) {g : Nat} (hg : NoStr W g) (k : Nat) (u : Value) : Row Cl.cs 2 (W.setCell ⟨g, k, none⟩ u) v l := by
  obtain ⟨cs, T, hg1, hg2⟩ := hg
  obtain ⟨A, c, e, hc, h⟩ := h
  refine ⟨A, c, e, hc, fun hl => ?_⟩
  obtain ⟨b, o, ha, hb, hx⟩ := h hl
  have hne : b ≠ g := by
    intro e2
    subst e2
    obtain ⟨x, hx0⟩ : ∃ x, l[0]? = some x := ⟨_, List.getElem?_eq_getElem hl⟩
    have h0 := hx 0 x 0 _ hx0 rfl
    rw [cellsAt hg1] at h0
    exact hg2 _ _ h0
  refine ⟨b, o, ha, by simpa [World.setCell] using hb, fun i x j u' h1 h2 => ?_⟩
  have h3 := hx i x j u' h1 h2
  rw [← h3]
  unfold World.cell?
  rw [show (W.setCell ⟨g, k, none⟩ u).heap[b]? = W.heap[b]? from Below.heap_setCell W ⟨g, k, none⟩ u b hne]
theorem OkRow.setG {W : World} {v : Value} {l : List Cl} (h : OkRow W v l) {g : Nat} (hg : NoStr W g) (k : Nat) (u : Value) : OkRow (W.setCell ⟨g, k, none⟩ u) v l := ⟨Row.setG h.1 hg k u, h.2⟩
theorem StAt.setG {W : World} {v : Value} {s : St} (h : StAt W v s) {g : Nat} (hg : NoStr W g) (k : Nat) (u : Value) : StAt (W.setCell ⟨g, k, none⟩ u) v s := by
  obtain ⟨vc, vf, e, h1, h2⟩ := h
  exact ⟨vc, vf, e, h1.setG hg k u, h2.setG hg k u⟩
/-- What a batch holds: a store, cells that are still to be written, an error. -/
def BoxAt (g : Nat) (W : World) (s : St) (rest : List Cl) (bad : Int) : Prop :=
  ∃ A1 n1 c1 A2 n2 c2 A3 n3 c3, W.heap[g]? = some (.cells #[.slice A1 n1 c1, .slice A2 n2 c2, .bool s.d, .slice A3 n3 c3, .int .i64 bad] 116 (0, 0)) ∧ StAt W (.agg #[.slice A1 n1 c1, .slice A2 n2 c2, .bool s.d]) s ∧ OkRow W (.slice A3 n3 c3) rest
theorem nostr5 {W : World} {g : Nat} {A1 A2 A3 : Option Addr} {n1 c1 n2 c2 n3 c3 : Nat} {d : Bool} {b : Int} {T : TypeId} (h : W.heap[g]? = some (.cells #[.slice A1 n1 c1, .slice A2 n2 c2, .bool d, .slice A3 n3 c3, .int .i64 b] T (0, 0))) : NoStr W g := by
  refine ⟨_, T, h, fun j s => ?_⟩
  match j with
  | 0 => simp
  | 1 => simp
  | 2 => simp
  | 3 => simp
  | 4 => simp
  | j + 5 => simp
theorem BoxAt.below {g : Nat} {W W' : World} {s : St} {rest : List Cl} {bad : Int} (h : BoxAt g W s rest bad) (hb : Below W.heap.size W W') : BoxAt g W' s rest bad := by
  obtain ⟨A1, n1, c1, A2, n2, c2, A3, n3, c3, h1, h2, h3⟩ := h
  exact ⟨A1, n1, c1, A2, n2, c2, A3, n3, c3, heap_below h1 hb, h2.below hb, h3.below hb⟩
/-- A method of a batch answers: the batch holds that now; nothing else that stood has changed. -/
def BwTo (g : Nat) (r : St × Int) (rest : List Cl) (w : World) (e : Ending) (w' : World) : Prop := e = .returned (.tuple #[]) ∧ BoxAt g w' r.1 rest r.2 ∧ w.grownBy w' (some g)
theorem grown_of {w w' : World} {g : Nat} (h : Below w.heap.size w w') : w.grownBy w' (some g) := ⟨h.os, h.tape, h.output, h.size, fun k hk _ => h.block k hk⟩
theorem grown_tr {w a b : World} {g : Nat} (h : w.grownBy a (some g)) (k : a.grownBy b (some g)) : w.grownBy b (some g) :=
  ⟨k.os.trans h.os, k.tape.trans h.tape, k.output.trans h.output, Nat.le_trans h.size k.size, fun j hj hne => (k.block j (Nat.lt_of_lt_of_le hj h.size) hne).trans (h.block j hj hne)⟩
theorem Row.grownG {W W' : World} {v : Value} {l : List Cl} (h : Row Cl.cs 2 W v l) {g : Nat} (hg : NoStr W g) (hb : W.grownBy W' (some g)) : Row Cl.cs 2 W' v l := by
  obtain ⟨cs, T, hg1, hg2⟩ := hg
  obtain ⟨A, c, e, hc, h⟩ := h
  refine ⟨A, c, e, hc, fun hl => ?_⟩
  obtain ⟨b, o, ha, hb', hx⟩ := h hl
  have hne : b ≠ g := by
    intro e2
    subst e2
    obtain ⟨x, hx0⟩ : ∃ x, l[0]? = some x := ⟨_, List.getElem?_eq_getElem hl⟩
    have h0 := hx 0 x 0 _ hx0 rfl
    rw [cellsAt hg1] at h0
    exact hg2 _ _ h0
  refine ⟨b, o, ha, Nat.lt_of_lt_of_le hb' hb.size, fun i x j u' h1 h2 => ?_⟩
  have h3 := hx i x j u' h1 h2
  rw [← h3]
  unfold World.cell?
  rw [hb.block b hb' (fun e => hne (by injection e))]
theorem bx_end1 {w w3 : World} {g : Nat} {B1 B2 A1 A2 A3 : Option Addr} {k1 e1 k2 e2 n1 c1 n2 c2 n3 c3 : Nat} {d d0 : Bool} {b er : Int} {s : St} {rest : List Cl}
    (hg : w3.heap[g]? = some (.cells #[.slice B1 k1 e1, .slice B2 k2 e2, .bool d0, .slice A3 n3 c3, .int .i64 b] 116 (0, 0))) (hd : s.d = d)
    (hs : StAt w3 (.agg #[.slice A1 n1 c1, .slice A2 n2 c2, .bool d]) s) (hr : OkRow w3 (.slice A3 n3 c3) rest) (hb : w.grownBy w3 (some g)) :
    BwTo g (s, er) rest w (.returned (.tuple #[])) ((((w3.setCell ⟨g, 0, none⟩ (.slice A1 n1 c1)).setCell ⟨g, 1, none⟩ (.slice A2 n2 c2)).setCell ⟨g, 2, none⟩ (.bool d)).setCell ⟨g, 4, none⟩ (.int .i64 er)) := by
  subst hd
  have x0 := nostr5 hg
  have x1 := x0.set 0 (u := .slice A1 n1 c1) (by simp)
  have x2 := x1.set 1 (u := .slice A2 n2 c2) (by simp)
  have x3 := x2.set 2 (u := .bool s.d) (by simp)
  refine ⟨rfl, ⟨A1, n1, c1, A2, n2, c2, A3, n3, c3, ?_, (((hs.setG x0 _ _).setG x1 _ _).setG x2 _ _).setG x3 _ _, (((hr.setG x0 _ _).setG x1 _ _).setG x2 _ _).setG x3 _ _⟩, ?_⟩
  · have h := blk_set (blk_set (blk_set (blk_set hg 0 (.slice A1 n1 c1)) 1 (.slice A2 n2 c2)) 2 (.bool s.d)) 4 (.int .i64 er)
    simpa using h
  · exact grown_tr (grown_tr (grown_tr (grown_tr hb (grown_set _ _ _)) (grown_set _ _ _)) (grown_set _ _ _)) (grown_set _ _ _)
theorem bx_end2 {w w3 : World} {g : Nat} {B1 B2 A1 A2 A3 : Option Addr} {k1 e1 k2 e2 n1 c1 n2 c2 n3 c3 : Nat} {d d0 : Bool} {b er : Int} {s : St} {rest : List Cl}
    (hg : w3.heap[g]? = some (.cells #[.slice B1 k1 e1, .slice B2 k2 e2, .bool d0, .slice A3 n3 c3, .int .i64 b] 116 (0, 0))) (hd : s.d = d)
    (hs : StAt w3 (.agg #[.slice A1 n1 c1, .slice A2 n2 c2, .bool d]) s) (hr : OkRow w3 (.slice A3 n3 c3) rest) (hb : w.grownBy w3 (some g)) :
    BwTo g (s, er) rest w (.returned (.tuple #[])) ((((w3.setCell ⟨g, 4, none⟩ (.int .i64 er)).setCell ⟨g, 0, none⟩ (.slice A1 n1 c1)).setCell ⟨g, 1, none⟩ (.slice A2 n2 c2)).setCell ⟨g, 2, none⟩ (.bool d)) := by
  subst hd
  have x0 := nostr5 hg
  have x1 := x0.set 4 (u := .int .i64 er) (by simp)
  have x2 := x1.set 0 (u := .slice A1 n1 c1) (by simp)
  have x3 := x2.set 1 (u := .slice A2 n2 c2) (by simp)
  refine ⟨rfl, ⟨A1, n1, c1, A2, n2, c2, A3, n3, c3, ?_, (((hs.setG x0 _ _).setG x1 _ _).setG x2 _ _).setG x3 _ _, (((hr.setG x0 _ _).setG x1 _ _).setG x2 _ _).setG x3 _ _⟩, ?_⟩
  · have h := blk_set (blk_set (blk_set (blk_set hg 4 (.int .i64 er)) 0 (.slice A1 n1 c1)) 1 (.slice A2 n2 c2)) 2 (.bool s.d)
    simpa using h
  · exact grown_tr (grown_tr (grown_tr (grown_tr hb (grown_set _ _ _)) (grown_set _ _ _)) (grown_set _ _ _)) (grown_set _ _ _)
set_option maxRecDepth 100000 in
set_option maxHeartbeats 4000000 in
theorem bcommit_any (g : Nat) (s : St) (rest : List Cl) (b0 : Int) (w : World) (h : BoxAt g w s rest b0) :
    Calls Tryz.prog 48 #[.pointer (some ⟨g, 0, none⟩)] w (BwTo g (commitS s) rest w) := by
  obtain ⟨A1, n1, c1, A2, n2, c2, A3, n3, c3, hg, hs, hr⟩ := h
  have HC := Lib.hid (commit_any s _ w hs)
  have HR := Lib.hid hr
  have HG := Lib.hid hg
  obtain ⟨R, hR⟩ : ∃ R, commitS s = R := ⟨_, rfl⟩
  rw [hR] at HC ⊢
  obtain ⟨rs, re⟩ := R
  have hz := blk_lt hg
  have x0 := cellsAt hg 0
  have x1 := cellsAt hg 1
  have x2 := cellsAt hg 2
  simp at x0 x1 x2
  clear hg hs hr hR
  go_enter Tryz.func48, Tryz.ntmps48
  go_wp2_with fail
  refine HC.out.mono ?_
  rintro e w1 ⟨v, rfl, hs1, hb1⟩
  obtain ⟨A4, n4, c4, A5, n5, c5, rfl, -, -⟩ := hs1.form3
  have HG1 := Lib.hid (heap_below HG.out hb1)
  have HR1 := Lib.hid (HR.out.below hb1)
  have HS1 := Lib.hid hs1
  have HB1 := Lib.hid (grown_of (g := g) hb1)
  clear x0 x1 x2 hz hb1 hs1 HC
  obtain ⟨d, hd⟩ : ∃ d, rs.d = d := ⟨_, rfl⟩
  simp only at HS1 ⊢
  rw [hd] at HS1 ⊢
  have HD := Lib.hid hd
  clear hd
  have hz := blk_lt HG1.out
  have f0 := frozAt HG1.out
  have y0 := cellsAt HG1.out 0
  have y1 := cellsAt HG1.out 1
  have y2 := cellsAt HG1.out 2
  have y4 := cellsAt HG1.out 4
  simp at y0 y1 y2 y4
  go_wp2_with fail
  go_end0
  exact bx_end1 HG1.out HD.out HS1.out HR1.out HB1.out
set_option maxRecDepth 100000 in
set_option maxHeartbeats 4000000 in
theorem bwrite_any (g : Nat) (s : St) (x : Cl) (rest : List Cl) (b0 : Int) (w : World) (h : BoxAt g w s (x :: rest) b0) (hx : x.Ok) :
    Calls Tryz.prog 47 #[.pointer (some ⟨g, 0, none⟩)] w (BwTo g (writeS s x) rest w) := by
  obtain ⟨A1, n1, c1, A2, n2, c2, A3, n3, c3, hg, hs, hr⟩ := h
  have HC := Lib.hid (fun W (h : StAt W (.agg #[.slice A1 n1 c1, .slice A2 n2 c2, .bool s.d]) s) => write_any s x hx _ W h)
  have HS := Lib.hid hs
  obtain ⟨b, o, c6, e', hc', hb1, hX⟩ := hr.1.at_ (i := 0) (x := x) rfl
  injection e' with e1 e2 e3
  subst e1 e2 e3
  have k0 := hX 0 _ rfl
  have k1 := hX 1 _ rfl
  simp only [Nat.zero_mul, Nat.add_zero] at k0 k1
  clear hX
  have HT := Lib.hid (Row.drop (j := 1) hr.1 (by simp))
  have HRO := Lib.hid hr.2
  have HG := Lib.hid hg
  obtain ⟨R, hR⟩ : ∃ R, writeS s x = R := ⟨_, rfl⟩
  rw [hR] at HC ⊢
  obtain ⟨rs, re⟩ := R
  obtain ⟨m, hm⟩ : ∃ m, rest.length = m := ⟨_, rfl⟩
  have Hm := Lib.hid hm
  have hl : m ≤ 1000000 := by have := hr.2.2; rw [List.length_cons, hm] at this; omega
  simp only [List.length_cons, hm] at hg HG HT hc'
  have hz := blk_lt hg
  have x0 := cellsAt hg 0
  have x1 := cellsAt hg 1
  have x2 := cellsAt hg 2
  have x3 := cellsAt hg 3
  have f0 := frozAt hg
  simp at x0 x1 x2 x3
  clear hg hs hr hR hm
  obtain ⟨xn, xb⟩ := x
  simp only at k0 k1 HC
  simp only [Nat.add_sub_cancel, List.drop_succ_cons, List.drop_zero, Nat.one_mul] at HT
  obtain ⟨AD, hAD⟩ : ∃ AD, (if c3 = 1 then some (⟨b, o, none⟩ : Addr) else some ⟨b, o + 2, none⟩) = AD := ⟨_, rfl⟩
  rw [hAD] at HT
  go_enter Tryz.func47, Tryz.ntmps47
  go_upto_region 2 with fail
  obtain ⟨W1, hW1⟩ : ∃ X, X = (w.setCell ⟨g, 3, none⟩ (.slice AD m (c3 - 1))).alloc (.cells #[.string xn, .string xb] 64) := ⟨_, rfl⟩
  rw [← hW1]
  have hns := nostr5 HG.out
  have hgs := blk_set HG.out 3 (.slice AD m (c3 - 1))
  have hss := HS.out.setG hns 3 (.slice AD m (c3 - 1))
  have hrs := Row.setG HT.out hns 3 (.slice AD m (c3 - 1))
  have hba : Below (w.setCell ⟨g, 3, none⟩ (.slice AD m (c3 - 1))).heap.size (w.setCell ⟨g, 3, none⟩ (.slice AD m (c3 - 1))) W1 := by rw [hW1]; exact bel_alloc (Below.refl _ _) _
  have HG1 := Lib.hid (show W1.heap[g]? = some (.cells #[.slice A1 n1 c1, .slice A2 n2 c2, .bool s.d, .slice AD m (c3 - 1), .int .i64 b0] 116 (0, 0)) by have h := heap_below hgs hba; simpa using h)
  have HCB := Lib.hid (show W1.heap[w.heap.size]? = some (.cells #[.string xn, .string xb] 64 (0, 0)) by rw [hW1]; exact heap_at _ _ _ (by simp [World.setCell]))
  have HS1 := Lib.hid (hss.below hba)
  have HR1 := Lib.hid (show OkRow W1 (.slice AD m (c3 - 1)) rest from ⟨hrs.below hba, fun y hy => HRO.out.1 y (by simp [hy]), by rw [Hm.out]; exact hl⟩)
  have HB1 := Lib.hid (grown_tr (grown_set w ⟨g, 3, none⟩ (.slice AD m (c3 - 1))) (grown_of hba))
  clear hW1 hns hgs hss hrs hba x0 x1 x2 x3 k0 k1 hz f0 HT hAD
  have HC2 := Lib.hid (fun W' (hb : Below W1.heap.size W1 W') => HC.out W' (HS1.out.below hb))
  clear HC
  have zg := blk_lt HG1.out
  have zc := blk_lt HCB.out
  have x0 := cellsAt HG1.out 0
  have x1 := cellsAt HG1.out 1
  have x2 := cellsAt HG1.out 2
  have q0 := cellsAt HCB.out 0
  have q1 := cellsAt HCB.out 1
  simp at x0 x1 x2 q0 q1
  obtain ⟨d, hd⟩ : ∃ d, rs.d = d := ⟨_, rfl⟩
  have HD := Lib.hid hd
  have HC3 : Hid (∀ W', Below W1.heap.size W1 W' → Calls Tryz.prog 76 #[.agg #[.slice A1 n1 c1, .slice A2 n2 c2, .bool s.d], .string xn, .string xb] W' fun e w' => ∃ A4 n4 c4 A5 n5 c5, e = .returned (.tuple #[.agg #[.slice A4 n4 c4, .slice A5 n5 c5, .bool d], .int .i64 re]) ∧ StAt w' (.agg #[.slice A4 n4 c4, .slice A5 n5 c5, .bool d]) rs ∧ Below W1.heap.size W1 w') := Lib.hid (fun W' hb => by
    refine (HC2.out W' hb).mono ?_
    rintro e w3 ⟨v, rfl, hs3, hb3⟩
    obtain ⟨A4, n4, c4, A5, n5, c5, rfl, -, -⟩ := hs3.form3
    simp only at hs3 ⊢
    rw [hd] at hs3 ⊢
    exact ⟨A4, n4, c4, A5, n5, c5, rfl, hs3, bThen hb hb3⟩)
  clear hd HC2
  go_region_law (go_simp; go_at_call 76; refine (HC3.out _ (by first | exact Below.refl _ _ | exact Below.drew (Below.refl _ _))).mono ?_; rintro e w3 ⟨A4, n4, c4, A5, n5, c5, rfl, hs3, hb3⟩; have HGX := heap_below HG1.out hb3; have y0 := cellsAt HGX 0; have y1 := cellsAt HGX 1; have y2 := cellsAt HGX 2; have y4 := cellsAt HGX 4; have yf := frozAt HGX; have yz := blk_lt HGX; simp at y0 y1 y2 y4)
  all_goals
    have HE1 := Lib.hid (bx_end1 (w := w) (er := re) HGX HD.out hs3 (HR1.out.below hb3) (grown_tr HB1.out (grown_of hb3)))
    have HE2 := Lib.hid (bx_end2 (w := w) (er := re) HGX HD.out hs3 (HR1.out.below hb3) (grown_tr HB1.out (grown_of hb3)))
    clear HGX hs3 hb3
    go_wp2_with fail
    go_end0
    first | (with_reducible exact HE1.out) | (with_reducible exact HE2.out)
/-- What a batch makes of a store, its cells written one by one, the power going behind so many steps. -/
def goB (s : St) (l : List Cl) (i : Nat) (left : Int) : St × Int :=
  match l with
  | [] => if (i : Int) = left then (⟨s.c, s.f, true⟩, 170) else if (commitS s).2 = 0 then ((commitS s).1, 0) else (zS, (commitS s).2)
  | x :: l => if (i : Int) = left then (⟨s.c, s.f, true⟩, 170) else if (writeS s x).2 = 0 then goB (writeS s x).1 l (i + 1) left else (zS, (writeS s x).2)
def batchS (s : St) (l : List Cl) (left : Int) : St × Int := if (rightB s.c s.f && allC l) = true then (if s.d = true then (zS, 170) else goB s l 0 left) else (zS, 1)
theorem goB_left {s : St} {l : List Cl} {i : Nat} {left : Int} (h : (i : Int) = left) : goB s l i left = (⟨s.c, s.f, true⟩, 170) := by
  cases l <;> (unfold goB; rw [if_pos h])
def BtRel (W5 : World) (l : List Cl) (left : Int) (R : St × Int) (p i : Value) (wr : World) : Prop :=
  ∃ (k : Nat) (s : St) (rest : List Cl), i = .int .i64 k ∧ Below W5.heap.size W5 wr ∧ BoxAt W5.heap.size wr s rest 0 ∧
    ((k ≤ l.length ∧ rest = l.drop k ∧ p = .func (.func 47) #[.pointer (some ⟨W5.heap.size, 0, none⟩)] #[] ∧ goB s rest k left = R) ∨ (k = l.length + 1 ∧ R = (s, 0)))
theorem nostr3 {W : World} {g : Nat} {A1 A2 : Option Addr} {n1 c1 n2 c2 : Nat} {d : Bool} {T : TypeId} (h : W.heap[g]? = some (.cells #[.slice A1 n1 c1, .slice A2 n2 c2, .bool d] T (0, 0))) : NoStr W g := by
  refine ⟨_, T, h, fun j s => ?_⟩
  match j with
  | 0 => simp
  | 1 => simp
  | 2 => simp
  | j + 3 => simp
theorem StAt.set3 {W : World} {v : Value} {s : St} (h : StAt W v s) {g : Nat} (hg : NoStr W g) {A1 A2 : Option Addr} {n1 c1 n2 c2 : Nat} {d : Bool} :
    StAt (((W.setCell ⟨g, 0, none⟩ (.slice A1 n1 c1)).setCell ⟨g, 1, none⟩ (.slice A2 n2 c2)).setCell ⟨g, 2, none⟩ (.bool d)) v s := by
  have x1 := hg.set 0 (u := .slice A1 n1 c1) (by simp)
  have x2 := x1.set 1 (u := .slice A2 n2 c2) (by simp)
  exact ((h.setG hg _ _).setG x1 _ _).setG x2 _ _
theorem bel_grown {w a b : World} {B g : Nat} (h : Below B w a) (k : a.grownBy b (some g)) (hs : B ≤ a.heap.size) (hg : B ≤ g) : Below B w b :=
  h.grown k hs (fun q hq => by injection hq with hq; omega)
set_option maxRecDepth 100000 in
set_option maxHeartbeats 4000000 in
theorem batch_any (s : St) (l : List Cl) (left : Int) (v u : Value) (w : World) (hs : StAt w v s) (hl : OkRow w u l) :
    Calls Tryz.prog 14 #[v, u, .int .i64 left] w (StTo (batchS s l left) w) := by
  obtain ⟨lc, lf, d⟩ := s
  obtain ⟨A, c, A', c', rfl, hv, hu⟩ := hs.form
  simp only at hv hu
  have HS := Lib.hid hs
  have HV := Lib.hid hv
  have HU := Lib.hid hu
  have HL := Lib.hid hl
  obtain ⟨⟨A3, c3, rfl, -⟩, -, hnl⟩ := hl
  obtain ⟨R, hR⟩ : ∃ R, batchS ⟨lc, lf, d⟩ l left = R := ⟨_, rfl⟩
  rw [hR]
  have HR := Lib.hid hR
  obtain ⟨q, hq⟩ : ∃ q, rightB lc lf = q := ⟨_, rfl⟩
  obtain ⟨bm, hbm⟩ : ∃ q, allC l = q := ⟨_, rfl⟩
  have HD := Lib.hid (fun W h1 h2 => sright_any lc lf d (.slice A lc.length c) (.slice A' lf.length c') W h1 h2 q hq)
  have HP := Lib.hid (fun W (h : OkRow W (.slice A3 l.length c3) l) => cobat_any l _ W h.1 h.2.2 h.2.1 bm hbm)
  have HQ := Lib.hid hq
  have HM := Lib.hid hbm
  obtain ⟨m, hm⟩ : ∃ m, lc.length = m := ⟨_, rfl⟩
  obtain ⟨m2, hm2⟩ : ∃ m, lf.length = m := ⟨_, rfl⟩
  obtain ⟨n, hn⟩ : ∃ m, l.length = m := ⟨_, rfl⟩
  simp only at HS ⊢
  rw [hm, hm2] at HS HD ⊢
  rw [hm] at HV
  rw [hm2] at HU
  rw [hn] at HL HP hnl ⊢
  have Hn := Lib.hid hn
  clear hm hm2 hn hv hu hR hq hbm hs
  unfold StTo
  go_enter Tryz.func14, Tryz.ntmps14
  go_wp2_with fail
  obtain ⟨W1, hW2⟩ : ∃ X, X = ((w).alloc (.cells #[.slice A m c, .slice A' m2 c', .bool d] 60)).alloc (.cells #[.slice none 0 0, .slice none 0 0, .bool false] 60) := ⟨_, rfl⟩
  rw [← hW2]
  have hb3 : Below w.heap.size w W1 := by rw [hW2]; exact bel_alloc (bel_alloc (Below.refl _ _) _) _
  have Ns := Lib.hid (show W1.heap[w.heap.size]? = some (.cells #[.slice A m c, .slice A' m2 c', .bool d] 60 (0, 0)) by rw [hW2]; exact heap_below (heap_at (w) _ (w.heap.size) (by simp)) (bel_alloc (Below.refl _ _) _))
  have Nz := Lib.hid (show W1.heap[w.heap.size + 1]? = some (.cells #[.slice none 0 0, .slice none 0 0, .bool false] 60 (0, 0)) by rw [hW2]; exact heap_at ((w).alloc (.cells #[.slice A m c, .slice A' m2 c', .bool d] 60)) _ (w.heap.size + 1) (by simp))
  clear hW2
  have BB4 := Lib.hid hb3
  clear hb3
  have Bls := Ns
  clear Ns
  have Blz := Nz
  clear Nz
  have R1 := Lib.hid (HV.out.below BB4.out)
  have R2 := Lib.hid (HU.out.below BB4.out)
  have R3 := Lib.hid (HL.out.below BB4.out)
  have Kp := Lib.hid (HS.out.below BB4.out)
  refine (HD.out _ R1.out R2.out).mono ?_
  rintro e w5 ⟨rfl, hb6⟩
  have Z := Lib.hid (heap_below Bls.out hb6)
  clear Bls
  have Bls := Z
  clear Z
  have Z := Lib.hid (heap_below Blz.out hb6)
  clear Blz
  have Blz := Z
  clear Z
  have Z := Lib.hid (OkRow.below R1.out hb6)
  clear R1
  have R1 := Z
  clear Z
  have Z := Lib.hid (OkRow.below R2.out hb6)
  clear R2
  have R2 := Z
  clear Z
  have Z := Lib.hid (OkRow.below R3.out hb6)
  clear R3
  have R3 := Z
  clear Z
  have Z := Lib.hid (StAt.below Kp.out hb6)
  clear Kp
  have Kp := Z
  clear Z
  have BB7 := Lib.hid (bThen BB4.out hb6)
  clear hb6
  have zs := blk_lt Bls.out
  have xs0 := cellsAt Bls.out 0
  have xs1 := cellsAt Bls.out 1
  have xs2 := cellsAt Bls.out 2
  have fs := frozAt Bls.out
  simp at xs0 xs1 xs2
  have zz := blk_lt Blz.out
  have xz0 := cellsAt Blz.out 0
  have xz1 := cellsAt Blz.out 1
  have xz2 := cellsAt Blz.out 2
  have fz := frozAt Blz.out
  simp at xz0 xz1 xz2
  cases q with
  | false =>
    have HRR := Lib.hid (show R = (zS, 1) by rw [← HR.out]; unfold batchS; simp only; rw [if_neg (by rw [HQ.out]; simp)])
    go_wp2_with fail
    exact bodyPost_ret (v := .tuple #[.agg #[.slice none 0 0, .slice none 0 0, .bool false], .int .i64 1]) (by simp [results, Tryz.results14, go_sem, xz0, xz1, xz2]) rfl ⟨_, by rw [HRR.out], by rw [HRR.out]; exact zS_at _, bel3 BB7.out (by omega) _ _ _⟩
  | true =>
    go_wp2_with fail
    refine (HP.out _ R3.out).mono ?_
    rintro e w8 ⟨rfl, hb9⟩
    clear zs fs xs0 xs1 xs2 zz fz xz0 xz1 xz2
    have Z := Lib.hid (heap_below Bls.out hb9)
    clear Bls
    have Bls := Z
    clear Z
    have Z := Lib.hid (heap_below Blz.out hb9)
    clear Blz
    have Blz := Z
    clear Z
    have Z := Lib.hid (OkRow.below R1.out hb9)
    clear R1
    have R1 := Z
    clear Z
    have Z := Lib.hid (OkRow.below R2.out hb9)
    clear R2
    have R2 := Z
    clear Z
    have Z := Lib.hid (OkRow.below R3.out hb9)
    clear R3
    have R3 := Z
    clear Z
    have Z := Lib.hid (StAt.below Kp.out hb9)
    clear Kp
    have Kp := Z
    clear Z
    have BB10 := Lib.hid (bThen BB7.out hb9)
    clear hb9
    have zs := blk_lt Bls.out
    have xs0 := cellsAt Bls.out 0
    have xs1 := cellsAt Bls.out 1
    have xs2 := cellsAt Bls.out 2
    have fs := frozAt Bls.out
    simp at xs0 xs1 xs2
    have zz := blk_lt Blz.out
    have xz0 := cellsAt Blz.out 0
    have xz1 := cellsAt Blz.out 1
    have xz2 := cellsAt Blz.out 2
    have fz := frozAt Blz.out
    simp at xz0 xz1 xz2
    cases bm with
    | false =>
      have HRR := Lib.hid (show R = (zS, 1) by rw [← HR.out]; unfold batchS; simp only; rw [if_neg (by rw [HQ.out, HM.out]; simp)])
      go_wp2_with fail
      exact bodyPost_ret (v := .tuple #[.agg #[.slice none 0 0, .slice none 0 0, .bool false], .int .i64 1]) (by simp [results, Tryz.results14, go_sem, xz0, xz1, xz2]) rfl ⟨_, by rw [HRR.out], by rw [HRR.out]; exact zS_at _, bel3 BB10.out (by omega) _ _ _⟩
    | true =>
      have HQM := Lib.hid (show (rightB lc lf && allC l) = true by rw [HQ.out, HM.out]; rfl)
      cases d with
      | true =>
        have HRR := Lib.hid (show R = (zS, 170) by rw [← HR.out]; unfold batchS; simp only; rw [if_pos HQM.out, if_pos trivial])
        go_wp2_with fail
        exact bodyPost_ret (v := .tuple #[.agg #[.slice none 0 0, .slice none 0 0, .bool false], .int .i64 170]) (by simp [results, Tryz.results14, go_sem, xz0, xz1, xz2]) rfl ⟨_, by rw [HRR.out], by rw [HRR.out]; exact zS_at _, bel3 BB10.out (by omega) _ _ _⟩
      | false =>
        have HR2 := Lib.hid (show goB ⟨lc, lf, false⟩ l 0 left = R by rw [← HR.out]; unfold batchS; simp only; rw [if_pos HQM.out, if_neg (by simp)])
        go_upto_region 6 with fail
        have BlzC := Blz
        have BBC := BB10
        obtain ⟨W11, hW12⟩ : ∃ X, X = (w8).alloc (.cells #[.slice A m c, .slice A' m2 c', .bool false, .slice A3 n c3, .int .i64 0] 116) := ⟨_, rfl⟩
        rw [← hW12]
        have hb13 : Below w8.heap.size w8 W11 := by rw [hW12]; exact bel_alloc (Below.refl _ _) _
        have HB56 := Lib.hid hb13
        have Nb := Lib.hid (show W11.heap[w8.heap.size]? = some (.cells #[.slice A m c, .slice A' m2 c', .bool false, .slice A3 n c3, .int .i64 0] 116 (0, 0)) by rw [hW12]; exact heap_at (w8) _ (w8.heap.size) (by simp))
        clear hW12
        have Z := Lib.hid (heap_below Bls.out hb13)
        clear Bls
        have Bls := Z
        clear Z
        have Z := Lib.hid (heap_below Blz.out hb13)
        clear Blz
        have Blz := Z
        clear Z
        have Z := Lib.hid (OkRow.below R1.out hb13)
        clear R1
        have R1 := Z
        clear Z
        have Z := Lib.hid (OkRow.below R2.out hb13)
        clear R2
        have R2 := Z
        clear Z
        have Z := Lib.hid (OkRow.below R3.out hb13)
        clear R3
        have R3 := Z
        clear Z
        have Z := Lib.hid (StAt.below Kp.out hb13)
        clear Kp
        have Kp := Z
        clear Z
        have BB14 := Lib.hid (bThen BB10.out hb13)
        clear hb13
        have Blb := Nb
        clear Nb
        have HBX := Lib.hid (show BoxAt w8.heap.size W11 ⟨lc, lf, false⟩ l 0 from ⟨_, _, _, _, _, _, _, _, _, Blb.out, Kp.out, R3.out⟩)
        clear zs fs xs0 xs1 xs2 zz fz xz0 xz1 xz2
        have hw1 : wrap64 ((n : Int) + 1) = ((n + 1 : Nat) : Int) := by rw [IntWalk.wrap64_in _ (by omega)]; omega
        have hw2 : IntKind.i64.wrap ((n : Int) + 1) = ((n + 1 : Nat) : Int) := by rw [IntKind.wrap_i64]; omega
        have hzw : w.heap.size + 2 ≤ w8.heap.size := by have := blk_lt BlzC.out; omega
        go_wp2_with fail
        go_loopw [9, 31] (fun p i wr => BtRel w8 l left R p i wr) (fun _ i _ => n + 1 - (intOf i).toNat)
        case atStart => exact ⟨0, _, l, rfl, HB56.out, HBX.out, .inl ⟨Nat.zero_le _, rfl, rfl, HR2.out⟩⟩
        case round =>
          clear Bls Blz Blb R1 R2 R3 Kp HBX HB56 HR2 BB14
          obtain ⟨k, s, rest, rfl, hbk, hbx, hor⟩ := hrel
          rw [Hn.out] at hor
          have HBK := Lib.hid hbk
          have HBX := Lib.hid hbx
          have Blz := Lib.hid (heap_below BlzC.out hbk)
          have hbs := hbk.size
          have BB0 := Lib.hid (bThen BBC.out hbk)
          clear hbk hbx
          by_cases hlt : k < n + 1
          · rcases hor with ⟨hk, rfl, rfl, hgo⟩ | ⟨hk, -⟩
            rotate_left
            · omega
            have HGO := Lib.hid hgo
            clear hgo
            have hki : (k : Int) < (n : Int) + 1 := by omega
            have hki2 : (k : Int) < ((n + 1 : Nat) : Int) := by omega
            by_cases hL : (k : Int) = left
            · have HRR := Lib.hid (show R = (⟨s.c, s.f, true⟩, 170) by rw [← HGO.out, goB_left hL])
              have tl : ((k : Int) == left) = true := by simpa using hL
              have tl2 : decide ((k : Int) = left) = true := by simpa using hL
              obtain ⟨A1, n1, c1, A2, n2, c2, A4, n4, c4, hg0, hs0, hr0⟩ := HBX.out
              have HG := Lib.hid hg0
              have HS0 := Lib.hid hs0
              have zb := blk_lt hg0
              have b0 := cellsAt hg0 0
              have b1 := cellsAt hg0 1
              have b2 := cellsAt hg0 2
              have b4 := cellsAt hg0 4
              have fb := frozAt hg0
              simp at b0 b1 b2 b4
              clear hg0 hs0 hr0
              go_upto_region 12 with fail
              clear b0 b1 b2 b4 fb zb
              have HG2 := Lib.hid (show (wr.setCell ⟨w8.heap.size, 2, none⟩ (.bool true)).heap[w8.heap.size]? = some (.cells #[.slice A1 n1 c1, .slice A2 n2 c2, .bool true, .slice A4 n4 c4, .int .i64 0] 116 (0, 0)) by have h := blk_set HG.out 2 (.bool true); simpa using h)
              have HS2 := Lib.hid (show StAt (wr.setCell ⟨w8.heap.size, 2, none⟩ (.bool true)) (.agg #[.slice A1 n1 c1, .slice A2 n2 c2, .bool true]) ⟨s.c, s.f, true⟩ from ⟨_, _, rfl, HS0.out.rows.1.setG (nostr5 HG.out) _ _, HS0.out.rows.2.setG (nostr5 HG.out) _ _⟩)
              have HZ2 := Lib.hid ((Below.heap_setCell wr ⟨w8.heap.size, 2, none⟩ (.bool true) (w.heap.size + 1) (by show w.heap.size + 1 ≠ w8.heap.size; omega)).trans Blz.out)
              have HB2 := Lib.hid (BB0.out.setCell (p := ⟨w8.heap.size, 2, none⟩) (by show w.heap.size ≤ w8.heap.size; omega) (.bool true))
              generalize wr.setCell ⟨w8.heap.size, 2, none⟩ (.bool true) = W7 at *
              have b0 := cellsAt HG2.out 0
              have b1 := cellsAt HG2.out 1
              have b2 := cellsAt HG2.out 2
              simp at b0 b1 b2
              have zb := blk_lt HG2.out
              have xz0 := cellsAt HZ2.out 0
              have xz1 := cellsAt HZ2.out 1
              have xz2 := cellsAt HZ2.out 2
              have fz := frozAt HZ2.out
              have zz := blk_lt HZ2.out
              simp at xz0 xz1 xz2
              go_wp2_with fail
              have Ez := set3 HZ2.out (.slice A1 n1 c1) (.slice A2 n2 c2) (.bool true)
              have e0 := cellsAt Ez 0
              have e1 := cellsAt Ez 1
              have e2 := cellsAt Ez 2
              simp at e0 e1 e2
              exact bodyPost_ret (v := .tuple #[.agg #[.slice A1 n1 c1, .slice A2 n2 c2, .bool true], .int .i64 170]) (by simp [results, Tryz.results14, go_sem, e0, e1, e2]) rfl ⟨_, by rw [HRR.out], by rw [HRR.out]; exact HS2.out.set3 (nostr3 HZ2.out), bel3 HB2.out (by omega) _ _ _⟩
            · have tl : ((k : Int) == left) = false := by simpa using hL
              have tl2 : decide ((k : Int) = left) = false := by simpa using hL
              by_cases hkn : k < n
              · obtain ⟨x, hx⟩ : ∃ x, l[k]? = some x := ⟨_, List.getElem?_eq_getElem (by rw [Hn.out]; exact hkn)⟩
                have hdr : l.drop k = x :: l.drop (k + 1) := by obtain ⟨h1, h2⟩ := List.getElem?_eq_some_iff.1 hx; rw [drop_at h1, h2]
                rw [hdr] at HBX HGO
                have hxo := HL.out.2.1 x (List.mem_of_getElem? hx)
                clear hx hdr
                have tn : ((k : Int) == (n : Int)) = false := by simp; omega
                have tn2 : decide ((k : Int) = (n : Int)) = false := by simp; omega
                have tn3 : decide (k = n) = false := by simp; omega
                have tn4 : (k == n) = false := by simp; omega
                have HNX := Lib.hid (show (if (writeS s x).2 = 0 then goB (writeS s x).1 (l.drop (k + 1)) (k + 1) left else (zS, (writeS s x).2)) = R by rw [← HGO.out]; conv => rhs; unfold goB; simp only; rw [if_neg hL])
                have HCW := Lib.hid (bwrite_any w8.heap.size s x _ 0 wr HBX.out hxo)
                obtain ⟨r, hr⟩ : ∃ r, writeS s x = r := ⟨_, rfl⟩
                rw [hr] at HNX HCW
                clear hr HGO
                go_wp2_with fail
                refine (HCW.out).mono ?_
                rintro e w2 ⟨rfl, hbx2, hgr⟩
                obtain ⟨rs, re⟩ := r
                simp only at hbx2
                have HB2 := Lib.hid (bel_grown HBK.out hgr hbs (Nat.le_refl _))
                have HZ2 := Lib.hid ((hgr.block (w.heap.size + 1) (blk_lt Blz.out) (by intro e; injection e with e; omega)).trans Blz.out)
                have BB2 := Lib.hid (bThen BBC.out HB2.out)
                have HX2 := Lib.hid hbx2
                clear hbx2 hgr HBX Blz
                obtain ⟨A1, n1, c1, A2, n2, c2, A4, n4, c4, hg0, hs0, hr0⟩ := HX2.out
                have b4 := cellsAt hg0 4
                have zb := blk_lt hg0
                simp at b4
                have HG := Lib.hid hg0
                have HSS := Lib.hid hs0
                clear hg0 hs0 hr0
                by_cases hre : re = 0
                · subst hre
                  go_wp2_with fail
                  go_roundw
                  case rel => exact ⟨k + 1, rs, l.drop (k + 1), by go_num, HB2.out, HX2.out, .inl ⟨by rw [Hn.out]; omega, rfl, rfl, by have h := HNX.out; rw [if_pos trivial] at h; exact h⟩⟩
                  case measure => first | (simp [intOf]; done) | (simp [intOf]; omega)
                · have t4 : (re != 0) = true := by simpa using hre
                  have HRR := Lib.hid (show R = (zS, re) by rw [← HNX.out, if_neg (by simpa using hre)])
                  clear hre
                  go_upto_region 17 with fail
                  have xz0 := cellsAt HZ2.out 0
                  have xz1 := cellsAt HZ2.out 1
                  have xz2 := cellsAt HZ2.out 2
                  have fz := frozAt HZ2.out
                  have zz := blk_lt HZ2.out
                  simp at xz0 xz1 xz2
                  go_region
                  all_goals
                    go_wp2_with fail
                    exact bodyPost_ret (v := .tuple #[.agg #[.slice none 0 0, .slice none 0 0, .bool false], .int .i64 re]) (by simp [results, Tryz.results14, go_sem, xz0, xz1, xz2]) rfl ⟨_, by rw [HRR.out], by rw [HRR.out]; exact zS_at _, by first | exact bel3 BB2.out (by omega) _ _ _ | exact Below.drew (bel3 BB2.out (by omega) _ _ _) | exact bel3 (Below.drew BB2.out) (by omega) _ _ _⟩
              · obtain rfl : k = n := by omega
                have hdr : l.drop k = [] := List.drop_eq_nil_of_le (by rw [Hn.out]; exact Nat.le_refl _)
                rw [hdr] at HBX HGO
                clear hdr
                have HNX := Lib.hid (show (if (commitS s).2 = 0 then ((commitS s).1, 0) else (zS, (commitS s).2)) = R by rw [← HGO.out]; conv => rhs; unfold goB; simp only; rw [if_neg hL])
                have HCW := Lib.hid (bcommit_any w8.heap.size s [] 0 wr HBX.out)
                obtain ⟨r, hr⟩ : ∃ r, commitS s = r := ⟨_, rfl⟩
                rw [hr] at HNX HCW
                clear hr HGO
                go_wp2_with fail
                refine (HCW.out).mono ?_
                rintro e w2 ⟨rfl, hbx2, hgr⟩
                obtain ⟨rs, re⟩ := r
                simp only at hbx2
                have HB2 := Lib.hid (bel_grown HBK.out hgr hbs (Nat.le_refl _))
                have HZ2 := Lib.hid ((hgr.block (w.heap.size + 1) (blk_lt Blz.out) (by intro e; injection e with e; omega)).trans Blz.out)
                have BB2 := Lib.hid (bThen BBC.out HB2.out)
                have HX2 := Lib.hid hbx2
                clear hbx2 hgr HBX Blz
                obtain ⟨A1, n1, c1, A2, n2, c2, A4, n4, c4, hg0, hs0, hr0⟩ := HX2.out
                have b4 := cellsAt hg0 4
                have zb := blk_lt hg0
                simp at b4
                have HG := Lib.hid hg0
                have HSS := Lib.hid hs0
                clear hg0 hs0 hr0
                by_cases hre : re = 0
                · subst hre
                  go_wp2_with fail
                  go_roundw
                  case rel => exact ⟨k + 1, rs, [], by go_num, HB2.out, HX2.out, .inr ⟨by rw [Hn.out], by have h := HNX.out; rw [if_pos trivial] at h; exact h.symm⟩⟩
                  case measure => first | (simp [intOf]; done) | (simp [intOf]; omega)
                · have t4 : (re != 0) = true := by simpa using hre
                  have HRR := Lib.hid (show R = (zS, re) by rw [← HNX.out, if_neg (by simpa using hre)])
                  clear hre
                  go_upto_region 17 with fail
                  have xz0 := cellsAt HZ2.out 0
                  have xz1 := cellsAt HZ2.out 1
                  have xz2 := cellsAt HZ2.out 2
                  have fz := frozAt HZ2.out
                  have zz := blk_lt HZ2.out
                  simp at xz0 xz1 xz2
                  go_region
                  all_goals
                    go_wp2_with fail
                    exact bodyPost_ret (v := .tuple #[.agg #[.slice none 0 0, .slice none 0 0, .bool false], .int .i64 re]) (by simp [results, Tryz.results14, go_sem, xz0, xz1, xz2]) rfl ⟨_, by rw [HRR.out], by rw [HRR.out]; exact zS_at _, by first | exact bel3 BB2.out (by omega) _ _ _ | exact Below.drew (bel3 BB2.out (by omega) _ _ _) | exact bel3 (Below.drew BB2.out) (by omega) _ _ _⟩
          · rcases hor with ⟨hk, -⟩ | ⟨hk, hrr⟩
            · omega
            have HRR := Lib.hid hrr
            clear hrr
            subst hk
            obtain ⟨lc2, lf2, d2⟩ := s
            obtain ⟨A1, n1, c1, A2, n2, c2, A4, n4, c4, hg0, hs0, hr0⟩ := HBX.out
            simp only at hg0 hs0
            have HG := Lib.hid hg0
            have HS0 := Lib.hid hs0
            have zb := blk_lt hg0
            have b0 := cellsAt hg0 0
            have b1 := cellsAt hg0 1
            have b2 := cellsAt hg0 2
            simp at b0 b1 b2
            clear hg0 hs0 hr0
            have zz := blk_lt Blz.out
            have xz0 := cellsAt Blz.out 0
            have xz1 := cellsAt Blz.out 1
            have xz2 := cellsAt Blz.out 2
            have fz := frozAt Blz.out
            simp at xz0 xz1 xz2
            go_wp2_with fail
            have Ez := set3 Blz.out (.slice A1 n1 c1) (.slice A2 n2 c2) (.bool d2)
            have e0 := cellsAt Ez 0
            have e1 := cellsAt Ez 1
            have e2 := cellsAt Ez 2
            simp at e0 e1 e2
            exact bodyPost_ret (v := .tuple #[.agg #[.slice A1 n1 c1, .slice A2 n2 c2, .bool d2], .int .i64 0]) (by simp [results, Tryz.results14, go_sem, e0, e1, e2]) rfl ⟨_, by rw [HRR.out], by rw [HRR.out]; exact HS0.out.set3 (nostr3 Blz.out), bel3 BB0.out (by omega) _ _ _⟩
def RmRel (l : List Cl) (W1 : World) (i : Value) (wr : World) : Prop := ∃ k : Nat, k ≤ l.length ∧ i = .int .i64 k ∧ (List.range k).all (fun i => mayC l[i]!) = true ∧ Below W1.heap.size W1 wr
def RbRel (w : World) (l : List Cl) (left : Int) (R : St × Int) (i : Value) (wr : World) : Prop :=
  ∃ (k : Nat) (s : St) (A1 : Option Addr) (n1 c1 : Nat) (A2 : Option Addr) (n2 c2 : Nat), k ≤ l.length ∧ i = .int .i64 k ∧ wr.heap[w.heap.size]? = some (.cells #[.slice A1 n1 c1, .slice A2 n2 c2, .bool s.d] 60 (0, 0)) ∧
    StAt wr (.agg #[.slice A1 n1 c1, .slice A2 n2 c2, .bool s.d]) s ∧ wr.heap[w.heap.size + 1]? = some (.cells #[.slice none 0 0, .slice none 0 0, .bool false] 60 (0, 0)) ∧ Below w.heap.size w wr ∧ goB s (l.drop k) k left = R
theorem commit_err (s : St) : (if (commitS s).2 = 0 then ((commitS s).1, (0 : Int)) else (zS, (commitS s).2)) = commitS s := by
  unfold commitS
  split
  · split
    · simp
    · split <;> simp
  · simp
end Go.Proofs.YtlboehpgpbchhaaGreat.Sto
