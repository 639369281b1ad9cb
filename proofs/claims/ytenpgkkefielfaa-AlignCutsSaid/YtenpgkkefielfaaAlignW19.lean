/-
  Layer 18: what Offer makes of any aligner; a row of items that came in.
-/
import Derived.Test.YtenpgkkefielfaaAlignW16
import Derived.Test.YtenpgkkefielfaaAlignW15
import Derived.Test.YtenpgkkefielfaaAlignW17
set_option linter.unusedVariables false
set_option linter.unusedSimpArgs false
namespace Go.Proofs.Ytenpgkkefielfaa
open Go.ChangeShapes Go.WideShapes Go.ChangeAt Go.RowKit Go.Deep

section
variable {H : Type} {enc : TypeId × Value → H} {W : World} {base : Nat} {spare : Nat → Bool} {held : Bool}
set_option maxRecDepth 100000 in
theorem arg_items {r : Reach} {b : Nat} {v : Value} {d : DataW H} {p : List MemPlace} (hok : Value.okWide Try.prog W r b 32 v) (h : DataW.Trod enc Try.prog W base spare held 32 v d p) :
    ∃ x, v = x ∧ ∃ l, RowI W x l := by
  obtain ⟨a, n, c, rfl⟩ := okWide_slice Try.underlying32 hok
  obtain ⟨fuel, hf⟩ := h
  obtain ⟨l, hl⟩ := open_items (c := .slice a n c) (by simpa [Value.cells] using hf)
  exact ⟨_, rfl, l, hl⟩
end
/-- What an offer is answered by: the aligner, whether the item passes, the barrier that is whole, what waited, the errno. -/
structure Ofr where
  a : Aln
  pass : Bool
  done : Int
  late : List Lt
  er : Int
def ofer (a : Aln) (i : Int) (it : It) : Ofr :=
  if (hasA a i && rightI it) = true then
    if a.got[i.toNat]! = true then
      if 16 ≤ a.held[i.toNat]!.l.length then ⟨zA, false, 0, [], 3⟩
      else ⟨{ a with held := a.held.set i.toNat ⟨.slice none 0 0, a.held[i.toNat]!.l ++ [it]⟩ }, false, 0, [], 0⟩
    else if it.kind = 4 then
      if a.n ≠ 0 ∧ a.n ≠ it.n then ⟨zA, false, 0, [], 190⟩
      else if (a.got.set i.toNat true).contains false = true then ⟨⟨it.n, a.got.set i.toNat true, a.held⟩, false, 0, [], 0⟩
      else ⟨newA' a.got.length, false, it.n, lateTo a.held a.held.length, 0⟩
    else ⟨a, true, 0, [], 0⟩
  else ⟨zA, false, 0, [], 1⟩
def OfTo (r : Ofr) (v : Value) (w : World) (e : Ending) (w' : World) : Prop :=
  (∃ v' a' vl, e = .returned (.tuple #[v', .bool r.pass, .int .i64 r.done, vl, .int .i64 r.er]) ∧ AlAt w' v' a' ∧ likeA r.a a' ∧ (∀ g, g < w.heap.size → OffB g v → OffB g v') ∧ Row Lt.cs 12 w' vl r.late) ∧ Below w.heap.size w w'
theorem off_zero (g : Nat) : OffB g zAV := by
  intro x y A n c e
  unfold zAV at e
  injection e with e
  injection e with e
  simp at e
theorem OfTo.zero {v : Value} {w w' : World} {er : Int} {e : Ending} (h : e = .returned (.tuple #[zAV, .bool false, .int .i64 0, .slice none 0 0, .int .i64 er]) ∧ Below w.heap.size w w') : OfTo ⟨zA, false, 0, [], er⟩ v w e w' :=
  ⟨⟨_, zA, _, h.1, zA_at w', likeA_self _, fun g _ _ => off_zero g, Row.none_⟩, h.2⟩
theorem likeA_set (a : Aln) (N : Nat) (r1 r2 : Value) (l : List It) : likeA { a with held := a.held.set N ⟨r1, l⟩ } { a with held := a.held.set N ⟨r2, l⟩ } := by
  refine ⟨rfl, rfl, by simp, fun k x y h1 h2 => ?_⟩
  simp only [List.getElem?_set] at h1 h2
  by_cases hk : N = k
  · subst hk
    rw [if_pos rfl] at h1 h2
    split at h1
    · rename_i hl
      rw [if_pos hl] at h2
      injection h1 with h1
      injection h2 with h2
      subst h1 h2
      rfl
    · simp at h1
  · rw [if_neg hk] at h1 h2
    rw [h1] at h2
    injection h2 with h2
    rw [h2]
theorem offer_any (a : Aln) (i : Int) (hi : wfL i) (it : It) (hwf : it.Wf) (v : Value) (w : World) (hv : AlAt w v a) :
    Calls Try.prog 19 #[v, .int .i64 i, itV it] w (OfTo (ofer a i it) v w) := by
  unfold ofer
  by_cases h : (hasA a i && rightI it) = true
  · rw [if_pos h]
    simp only [Bool.and_eq_true, hasA, decide_eq_true_eq] at h
    obtain ⟨⟨hr, h0, h1⟩, hri⟩ := h
    have hp := right_parts hr
    obtain ⟨N, rfl⟩ : ∃ N : Nat, i = N := ⟨i.toNat, by omega⟩
    simp only [Int.toNat_natCast]
    have hN : N < a.got.length := by omega
    obtain ⟨x, hx⟩ : ∃ x, a.held[N]? = some x := ⟨_, List.getElem?_eq_getElem (by omega)⟩
    obtain ⟨g, hg⟩ : ∃ g, a.got[N]? = some g := ⟨_, List.getElem?_eq_getElem hN⟩
    have hx' : a.held[N]! = x := by rw [List.getElem!_eq_getElem?_getD, hx, Option.getD_some]
    have hg' : a.got[N]! = g := by rw [List.getElem!_eq_getElem?_getD, hg, Option.getD_some]
    rw [hx', hg']
    cases g with
    | true =>
      rw [if_pos rfl]
      by_cases h16 : 16 ≤ x.l.length
      · rw [if_pos h16]
        exact (offer_no3 a N it hwf v w hv hr hri hN hp.2.1 x hx true hg rfl h16).mono (fun _ _ h => OfTo.zero h)
      · rw [if_neg h16]
        refine (offer_held a N it hwf v w hv hr hri hN hp.2.1 x hx true hg rfl (by omega)).mono ?_
        rintro e w' ⟨⟨v', row', he, ha, hf, -⟩, hb⟩
        exact ⟨⟨v', _, _, he, ha, likeA_set _ _ _ _ _, fun g hg _ => hf.off hg, Row.none_⟩, hb⟩
    | false =>
      rw [if_neg (by simp)]
      by_cases hk : it.kind = 4
      · rw [if_pos hk]
        by_cases hn : a.n ≠ 0 ∧ a.n ≠ it.n
        · rw [if_pos hn]
          exact (offer_no4 a N it hwf v w hv hr hri hN hp.2.1 x hx false hg rfl hk hn.1 hn.2).mono (fun _ _ h => OfTo.zero h)
        · rw [if_neg hn]
          have hn' : a.n = 0 ∨ a.n = it.n := by omega
          by_cases hc : (a.got.set N true).contains false = true
          · rw [if_pos hc]
            refine (offer_barrier a N it hwf v w hv hr hri hN hp.2.1 x hx false hg rfl hk hn' hc).mono ?_
            rintro e w' ⟨⟨v', he, ha, hf⟩, hb⟩
            exact ⟨⟨v', _, _, he, ha, likeA_self _, fun g hg _ => hf.off hg, Row.none_⟩, hb⟩
          · rw [if_neg hc]
            refine (offer_whole a N it hwf v w hv hr hri hN hp.2.1 x hx false hg rfl hk hn' (by simpa using hc)).mono ?_
            rintro e w' ⟨⟨v', vl, he, ha, hf, hl, -⟩, hb⟩
            exact ⟨⟨v', _, _, he, ha, likeA_self _, fun g hg _ => hf.off hg, hl⟩, hb⟩
      · rw [if_neg hk]
        refine (offer_pass a N it hwf v w hv hr hri hN hp.2.1 x hx false hg rfl hk).mono ?_
        rintro e w' ⟨⟨he, ha⟩, hb⟩
        exact ⟨⟨v, _, _, he, ha, likeA_self _, fun g _ h => h, Row.none_⟩, hb⟩
  · rw [if_neg h]
    exact (offer_no1 a i hi it hwf v w hv (by simpa using h)).mono (fun _ _ h => OfTo.zero h)
theorem box_kind {W : World} {g j : Nat} {q : Int} {a2 a3 : Option Addr} {n2 c2 n3 c3 : Nat} {T : TypeId} {u : Value} (hz : W.heap[g]? = some (.cells #[.int .i64 q, .slice a2 n2 c2, .slice a3 n3 c3] T (0, 0))) (h : W.cell? ⟨g, j, none⟩ = some u) : (∀ b, u ≠ .bool b) ∧ ∀ s, u ≠ .string s := by
  rw [cellsAt hz] at h
  match j, h with
  | 0, h => simp at h; subst h; exact ⟨(fun b e => by cases e), (fun b e => by cases e)⟩
  | 1, h => simp at h; subst h; exact ⟨(fun b e => by cases e), (fun b e => by cases e)⟩
  | 2, h => simp at h; subst h; exact ⟨(fun b e => by cases e), (fun b e => by cases e)⟩
  | j + 3, h => simp at h
theorem Row.keepNe {α : Type} {enc : α → List Value} {k : Nat} {W W' : World} {v : Value} {l : List α} (h : Row enc k W v l) {g : Nat} (hne : ∀ b o c, v = .slice (some ⟨b, o, none⟩) l.length c → 0 < l.length → b ≠ g)
    (hk : ∀ p : Addr, p.block ≠ g → W'.cell? p = W.cell? p) (hs : W.heap.size ≤ W'.heap.size) : Row enc k W' v l := by
  obtain ⟨A, c, e, hc, h⟩ := h
  refine ⟨A, c, e, hc, fun hl => ?_⟩
  obtain ⟨b, o, ha, hb, hx⟩ := h hl
  exact ⟨b, o, ha, by omega, fun i x j u h1 h2 => (hk _ (hne b o c (by rw [e, ha]) hl)).trans (hx i x j u h1 h2)⟩
theorem RowI.keepBox {W W' : World} {v : Value} {l : List It} (h : RowI W v l) {g : Nat} {q : Int} {a2 a3 : Option Addr} {n2 c2 n3 c3 : Nat} {T : TypeId} (hz : W.heap[g]? = some (.cells #[.int .i64 q, .slice a2 n2 c2, .slice a3 n3 c3] T (0, 0)))
    (hk : ∀ p : Addr, p.block ≠ g → W'.cell? p = W.cell? p) (hs : W.heap.size ≤ W'.heap.size) : RowI W' v l := by
  refine ⟨h.1.keepNe (g := g) ?_ hk hs, h.2⟩
  rintro b o c rfl hl rfl
  obtain ⟨b', o', c', e, -, -, hx⟩ := h.1.at_ (List.getElem?_eq_getElem hl)
  injection e with e
  injection e with e
  injection e with e1 e2
  subst e1 e2
  exact (box_kind hz (hx 1 _ rfl)).2 _ rfl
/-- An aligner stays as it is where a box is stored to that is none of its blocks. -/
theorem AlAt.keepBox {W W' : World} {v : Value} {a : Aln} (h : AlAt W v a) {g : Nat} {q : Int} {a2 a3 : Option Addr} {n2 c2 n3 c3 : Nat} {T : TypeId} (hz : W.heap[g]? = some (.cells #[.int .i64 q, .slice a2 n2 c2, .slice a3 n3 c3] T (0, 0))) (ho : OffB g v)
    (hk : ∀ p : Addr, p.block ≠ g → W'.cell? p = W.cell? p) (hs : W.heap.size ≤ W'.heap.size) : AlAt W' v a := by
  obtain ⟨vg, vh, rfl, h1, ⟨h2, h2'⟩, h3, h4, h5⟩ := h
  refine ⟨vg, vh, rfl, h1, ⟨h2.keepNe (g := g) ?_ hk hs, h2'⟩, h3.keepNe (g := g) ?_ hk hs, fun x hx => (h4 x hx).keepBox hz hk hs, h5⟩
  · rintro b o c rfl hl rfl
    obtain ⟨b', o', c', e, -, -, hx⟩ := h2.at_ (List.getElem?_eq_getElem hl)
    injection e with e
    injection e with e
    injection e with e1 e2
    subst e1 e2
    exact (box_kind hz (hx 0 _ rfl)).1 _ rfl
  · rintro b o c rfl hl
    exact ho _ _ ⟨b, o, none⟩ _ _ rfl
theorem set3 {w1 : World} {g : Nat} {x0 x1 x2 : Value} {T : TypeId} (h : w1.heap[g]? = some (.cells #[x0, x1, x2] T (0, 0))) (a b c : Value) :
    (((w1.setCell ⟨g, 0, none⟩ a).setCell ⟨g, 1, none⟩ b).setCell ⟨g, 2, none⟩ c).heap[g]? = some (.cells #[a, b, c] T (0, 0)) := by
  have := blk_set (blk_set (blk_set h 0 a) 1 b) 2 c
  simpa using this
theorem bel3 {w w1 : World} {n : Nat} (B : Below n w w1) {g : Nat} (hg : n ≤ g) (a b c : Value) :
    Below n w (((w1.setCell ⟨g, 0, none⟩ a).setCell ⟨g, 1, none⟩ b).setCell ⟨g, 2, none⟩ c) :=
  ((B.setCell (p := ⟨g, 0, none⟩) hg a).setCell (p := ⟨g, 1, none⟩) hg b).setCell (p := ⟨g, 2, none⟩) hg c
theorem cell_set3 (w : World) (g : Nat) (a b c : Value) (p : Addr) (hp : p.block ≠ g) : (((w.setCell ⟨g, 0, none⟩ a).setCell ⟨g, 1, none⟩ b).setCell ⟨g, 2, none⟩ c).cell? p = w.cell? p := by
  have h1 : ∀ (w : World) (i : Nat) (u : Value), (w.setCell ⟨g, i, none⟩ u).cell? p = w.cell? p := fun w i u => World.cell?_of_block (Below.heap_setCell w ⟨g, i, none⟩ u p.block (fun e => hp (by simpa using e)))
  rw [h1, h1, h1]
theorem off_arg {W : World} {v : Value} {a : Aln} (h : AlAt W v a) (hl : 0 < a.held.length) {g : Nat} (hg : W.heap.size ≤ g) : OffB g v := by
  obtain ⟨vg, vh, rfl, -, -, ⟨A', c', e', -, h3⟩, -⟩ := h
  obtain ⟨b, o, rfl, hb, -⟩ := h3 hl
  intro x y A n c e
  injection e with e
  injection e with e
  simp at e
  obtain ⟨-, -, e⟩ := e
  rw [e'] at e
  injection e with e
  injection e with e
  subst e
  show b ≠ g
  omega
/-- What reads alike may be alike, and has as much room. -/
theorem likeA_symm {a b : Aln} (h : likeA a b) : likeA b a := ⟨h.1.symm, h.2.1.symm, h.2.2.1.symm, fun k x y h1 h2 => (h.2.2.2 k y x h2 h1).symm⟩
theorem likeA_l {a b : Aln} (h : likeA a b) (k : Nat) : b.held[k]!.l = a.held[k]!.l := by
  simp only [List.getElem!_eq_getElem?_getD]
  rcases Nat.lt_or_ge k a.held.length with hk | hk
  · obtain ⟨x, hx⟩ : ∃ x, a.held[k]? = some x := ⟨_, List.getElem?_eq_getElem hk⟩
    obtain ⟨y, hy⟩ : ∃ y, b.held[k]? = some y := ⟨_, List.getElem?_eq_getElem (by rw [h.2.2.1]; exact hk)⟩
    rw [hx, hy]
    exact h.2.2.2 k x y hx hy
  · rw [List.getElem?_eq_none hk, List.getElem?_eq_none (by rw [h.2.2.1]; exact hk)]
theorem likeA_right {a b : Aln} (h : likeA a b) : rightA b = rightA a := by
  have hh : hAt b = hAt a := by
    funext k
    unfold hAt
    rw [likeA_l h k, h.2.1]
  unfold rightA
  rw [h.1, h.2.1, h.2.2.1, hh]
theorem likeA_room {a b : Aln} (h : likeA a b) (i : Int) : roomA b i = roomA a i := by
  unfold roomA
  rw [likeA_right h, h.2.1, likeA_l h]
end Go.Proofs.Ytenpgkkefielfaa
