/-
  WORDS of the law AlignCuts: the rows, what has passed and the segments that are wanted, while they are built.
-/
import Derived.Test.YtenpgkkefielfaaCutM
import Derived.Test.YtenpgkkefielfaaCutP4
set_option linter.unusedVariables false
set_option linter.unusedSimpArgs false
namespace Go.Proofs.Ytenpgkkefielfaa
open Go.RowKit

theorem RrAt.base {b b' : Nat} {W : World} {vo : Value} {hs : List Hl} (h : RrAt b W vo hs) (hb : b' ≤ b) : RrAt b' W vo hs := ⟨own_base h.own hb, fun x hx => own_base (h.rows x hx) hb, h.dis⟩
theorem RrAt.keepIn {bs : Nat} {W W' : World} {vo : Value} {hs : List Hl} (h : RrAt bs W vo hs) (h1 : ∀ k, vo.ownBlock = some k → W'.heap[k]? = W.heap[k]?) (h2 : ∀ x ∈ hs, ∀ k, x.row.ownBlock = some k → W'.heap[k]? = W.heap[k]?) : RrAt bs W' vo hs :=
  ⟨own_keep h.own h1, fun x hx => own_keep (h.rows x hx) (h2 x hx), h.dis⟩
structure Wn where
  row : Value
  segs : List Hl
def Wn.cs (u : Wn) : List Value := [u.row]
theorem Wn.cs_len (u : Wn) : u.cs.length = 1 := rfl
structure BSt (bs : Nat) (W : World) (vr vp vw : Value) (rs : List Hl) (np : Nat) (ws : List Wn) : Prop where
  le : bs ≤ W.heap.size
  rows : W.ownsRow bs 32 1 vr rs.length (rs.flatMap Hl.cs)
  pas : W.ownsRow bs 32 1 vp np ((List.replicate np hZ).flatMap Hl.cs)
  wan : W.ownsRow bs 22 1 vw ws.length (ws.flatMap Wn.cs)
  rp : ∀ k, vr.ownBlock = some k → vp.ownBlock ≠ some k
  rit : ∀ h ∈ rs, W.ownsRow bs 43 11 h.row h.l.length (h.l.flatMap It.cs)
  wit : ∀ u ∈ ws, RrAt bs W u.row u.segs ∧ ∀ k, u.row.ownBlock = some k → vr.ownBlock ≠ some k ∧ vp.ownBlock ≠ some k
theorem BSt.nil {bs : Nat} {W : World} (h : bs ≤ W.heap.size) : BSt bs W (.slice none 0 0) (.slice none 0 0) (.slice none 0 0) [] 0 [] :=
  ⟨h, World.ownsRow_nil _ _ _ _, World.ownsRow_nil _ _ _ _, World.ownsRow_nil _ _ _ _, fun k hk => by simp [Value.ownBlock] at hk, fun x hx => by simp at hx, fun x hx => by simp at hx⟩
section
variable {bs : Nat} {W W5 : World} {vr vp vw v5 : Value} {rs : List Hl} {np : Nat} {ws : List Wn}
theorem BSt.below (h : BSt bs W vr vp vw rs np ws) (hb : Below W.heap.size W W5) : BSt bs W5 vr vp vw rs np ws :=
  ⟨Nat.le_trans h.le hb.size, own_below h.rows hb, own_below h.pas hb, own_below h.wan hb, h.rp, fun x hx => own_below (h.rit x hx) hb, fun u hu => ⟨(h.wit u hu).1.below hb, (h.wit u hu).2⟩⟩
theorem nn_ne {v1 v2 : Value} (h : v1.ownBlock = none ∨ v1.ownBlock ≠ v2.ownBlock) {k : Nat} (hk : v1.ownBlock = some k) : some k ≠ v2.ownBlock := by
  rcases h with h | h
  · rw [h] at hk
    cases hk
  · rw [← hk]
    exact h
/-- One more row. -/
theorem BSt.pushR (h : BSt bs W vr vp vw rs np ws) {x : Hl} (hx : W.ownsRow bs 43 11 x.row x.l.length (x.l.flatMap It.cs))
    (ho : W5.ownsRow bs 32 1 v5 (rs.length + 1) (rs.flatMap Hl.cs ++ [x.row])) (hg : W.grownBy W5 vr.ownBlock) (hloc : v5.ownBlock = vr.ownBlock ∨ v5.ownBlock = some W.heap.size) : BSt bs W5 v5 vp vw (rs ++ [x]) np ws := by
  have hit : ∀ (v : Value) (n : Nat) (xs : List Value), W.ownsRow bs 43 11 v n xs → W5.ownsRow bs 43 11 v n xs := fun v n xs h1 => own_keep h1 (fun j hj => hg.block j (h1.lt j hj).2 (nn_ne (own_ne h1 h.rows (by decide)) hj))
  refine ⟨Nat.le_trans h.le hg.size, by rw [List.length_append, List.flatMap_append]; exact ho, own_keep h.pas (fun j hj => hg.block j (h.pas.lt j hj).2 (fun e => h.rp j e.symm hj)), own_keep h.wan (fun j hj => hg.block j (h.wan.lt j hj).2 (nn_ne (own_ne h.wan h.rows (by decide)) hj)), fun k hk hp => ?_, fun y hy => ?_, fun u hu => ⟨(h.wit u hu).1.keepIn (fun k hk => hg.block k ((h.wit u hu).1.own.lt k hk).2 (fun e => ((h.wit u hu).2 k hk).1 e.symm)) (fun y hy k hk => hg.block k (((h.wit u hu).1.rows y hy).lt k hk).2 (nn_ne (own_ne ((h.wit u hu).1.rows y hy) h.rows (by decide)) hk)), fun k hk => ⟨fun e => ?_, ((h.wit u hu).2 k hk).2⟩⟩⟩
  · rcases hloc with h2 | h2
    · exact h.rp k (by rw [← h2]; exact hk) hp
    · rw [h2] at hk
      have := (h.pas.lt k hp).2
      have : W.heap.size = k := Option.some.inj hk
      omega
  · rcases List.mem_append.1 hy with h1 | h1
    · exact hit _ _ _ (h.rit y h1)
    · rw [List.mem_singleton.1 h1]
      exact hit _ _ _ hx
  · rcases hloc with h2 | h2
    · exact ((h.wit u hu).2 k hk).1 (by rw [← h2]; exact e)
    · rw [h2] at e
      have := ((h.wit u hu).1.own.lt k hk).2
      have : W.heap.size = k := Option.some.inj e
      omega
/-- One more input of which nothing has passed. -/
theorem BSt.pushP (h : BSt bs W vr vp vw rs np ws)
    (ho : W5.ownsRow bs 32 1 v5 (np + 1) ((List.replicate np hZ).flatMap Hl.cs ++ [.slice none 0 0])) (hg : W.grownBy W5 vp.ownBlock) (hloc : v5.ownBlock = vp.ownBlock ∨ v5.ownBlock = some W.heap.size) : BSt bs W5 vr v5 vw rs (np + 1) ws := by
  refine ⟨Nat.le_trans h.le hg.size, own_keep h.rows (fun j hj => hg.block j (h.rows.lt j hj).2 (fun e => h.rp j hj e.symm)), by rw [List.replicate_succ', List.flatMap_append]; exact ho, own_keep h.wan (fun j hj => hg.block j (h.wan.lt j hj).2 (nn_ne (own_ne h.wan h.pas (by decide)) hj)), fun k hk hp => ?_, fun y hy => own_keep (h.rit y hy) (fun j hj => hg.block j ((h.rit y hy).lt j hj).2 (nn_ne (own_ne (h.rit y hy) h.pas (by decide)) hj)), fun u hu => ⟨(h.wit u hu).1.keepIn (fun k hk => hg.block k ((h.wit u hu).1.own.lt k hk).2 (fun e => ((h.wit u hu).2 k hk).2 e.symm)) (fun y hy k hk => hg.block k (((h.wit u hu).1.rows y hy).lt k hk).2 (nn_ne (own_ne ((h.wit u hu).1.rows y hy) h.pas (by decide)) hk)), fun k hk => ⟨((h.wit u hu).2 k hk).1, fun e => ?_⟩⟩⟩
  · rcases hloc with h2 | h2
    · exact h.rp k hk (by rw [← h2]; exact hp)
    · rw [h2] at hp
      have := (h.rows.lt k hk).2
      have : W.heap.size = k := Option.some.inj hp
      omega
  · rcases hloc with h2 | h2
    · exact ((h.wit u hu).2 k hk).2 (by rw [← h2]; exact e)
    · rw [h2] at e
      have := ((h.wit u hu).1.own.lt k hk).2
      have : W.heap.size = k := Option.some.inj e
      omega
/-- One more row of segments. -/
theorem BSt.pushW (h : BSt bs W vr vp vw rs np ws) {x : Wn} (hx : RrAt bs W x.row x.segs) (hxs : ∀ k, x.row.ownBlock = some k → vr.ownBlock ≠ some k ∧ vp.ownBlock ≠ some k)
    (ho : W5.ownsRow bs 22 1 v5 (ws.length + 1) (ws.flatMap Wn.cs ++ [x.row])) (hg : W.grownBy W5 vw.ownBlock) : BSt bs W5 vr vp v5 rs np (ws ++ [x]) := by
  have hrr : ∀ (vo : Value) (hs : List Hl), RrAt bs W vo hs → RrAt bs W5 vo hs := fun vo hs h1 => h1.keepIn (fun k hk => hg.block k (h1.own.lt k hk).2 (nn_ne (own_ne h1.own h.wan (by decide)) hk)) (fun y hy k hk => hg.block k ((h1.rows y hy).lt k hk).2 (nn_ne (own_ne (h1.rows y hy) h.wan (by decide)) hk))
  refine ⟨Nat.le_trans h.le hg.size, own_keep h.rows (fun j hj => hg.block j (h.rows.lt j hj).2 (nn_ne (own_ne h.rows h.wan (by decide)) hj)), own_keep h.pas (fun j hj => hg.block j (h.pas.lt j hj).2 (nn_ne (own_ne h.pas h.wan (by decide)) hj)), by rw [List.length_append, List.flatMap_append]; exact ho, h.rp, fun y hy => own_keep (h.rit y hy) (fun j hj => hg.block j ((h.rit y hy).lt j hj).2 (nn_ne (own_ne (h.rit y hy) h.wan (by decide)) hj)), fun u hu => ?_⟩
  rcases List.mem_append.1 hu with h1 | h1
  · exact ⟨hrr _ _ (h.wit u h1).1, (h.wit u h1).2⟩
  · rw [List.mem_singleton.1 h1]
    exact ⟨hrr _ _ hx, hxs⟩
end
/-- Only boxes that lie ahead of it all are stored to. -/
theorem BSt.keepHi {bs : Nat} {W W' : World} {vr vp vw : Value} {rs : List Hl} {np : Nat} {ws : List Wn} (h : BSt bs W vr vp vw rs np ws) (hk : ∀ k, bs ≤ k → W'.heap[k]? = W.heap[k]?) (hs : W'.heap.size = W.heap.size) : BSt bs W' vr vp vw rs np ws :=
  ⟨by rw [hs]; exact h.le, own_keep h.rows (fun k e => hk k (h.rows.lt k e).1), own_keep h.pas (fun k e => hk k (h.pas.lt k e).1), own_keep h.wan (fun k e => hk k (h.wan.lt k e).1), h.rp, fun x hx => own_keep (h.rit x hx) (fun k e => hk k ((h.rit x hx).lt k e).1), fun u hu => ⟨(h.wit u hu).1.keepIn (fun k e => hk k ((h.wit u hu).1.own.lt k e).1) (fun y hy k e => hk k (((h.wit u hu).1.rows y hy).lt k e).1), (h.wit u hu).2⟩⟩
/-- The two boxes, one behind the other. -/
structure BxS (b : Nat) (vp vw : Value) (W2 w : World) : Prop where
  p : w.heap[b]? = some (.cells #[vp] 22 (0, 0))
  v : w.heap[b + 1]? = some (.cells #[vw] 31 (0, 0))
  below : Below b W2 w
  size : b + 2 ≤ w.heap.size
theorem BxS.keep {b : Nat} {vp vw : Value} {W2 w w' : World} (h : BxS b vp vw W2 w) (hb : Below (b + 2) w w') : BxS b vp vw W2 w' :=
  ⟨(hb.block b (by omega)).trans h.p, (hb.block (b + 1) (by omega)).trans h.v, h.below.trans (hb.mono (by omega)), Nat.le_trans h.size hb.size⟩
/-- So many rows were built, with their segments. -/
structure BRows (B i : Nat) (R : Nat → List It) (E : Nat → Nat → Nat) (rs : List Hl) (ws : List Wn) : Prop where
  rl : rs.length = i
  wl : ws.length = i
  row : ∀ j, j < i → CutRow B (R j) (E j)
  at_ : ∀ j, j < i → ∃ h, rs[j]? = some h ∧ h.l = R j
  seg : ∀ j, j < i → ∃ u, ws[j]? = some u ∧ u.segs.length = B + 1 ∧ ∀ d, d ≤ B → ∃ h, u.segs[d]? = some h ∧ h.l = ((R j).take (E j d)).drop (sgo (E j) d)
theorem BRows.nil (B : Nat) : BRows B 0 (fun _ => []) (fun _ _ => 0) [] [] := ⟨rfl, rfl, fun j h => by omega, fun j h => by omega, fun j h => by omega⟩
theorem BRows.push {B i : Nat} {R : Nat → List It} {E : Nat → Nat → Nat} {rs : List Hl} {ws : List Wn} (h : BRows B i R E rs ws) {r : List It} {e : Nat → Nat} (hr : CutRow B r e) (vr vo : Value) {hs : List Hl} (hl : hs.length = B + 1) (hd : ∀ d, d ≤ B → ∃ x, hs[d]? = some x ∧ x.l = (r.take (e d)).drop (sgo e d)) :
    BRows B (i + 1) (updN R i r) (updN E i e) (rs ++ [⟨vr, r⟩]) (ws ++ [⟨vo, hs⟩]) := by
  refine ⟨by simp [h.rl], by simp [h.wl], fun j hj => ?_, fun j hj => ?_, fun j hj => ?_⟩
  · by_cases e1 : j = i
    · subst e1
      rw [updN_same, updN_same]
      exact hr
    · rw [updN_other _ _ e1, updN_other _ _ e1]
      exact h.row j (by omega)
  · by_cases e1 : j = i
    · subst e1
      refine ⟨⟨vr, r⟩, ?_, by rw [updN_same]⟩
      rw [List.getElem?_append_right (by rw [h.rl]; exact Nat.le_refl _), h.rl, Nat.sub_self]
      rfl
    · obtain ⟨x, h1, h2⟩ := h.at_ j (by omega)
      exact ⟨x, by rw [List.getElem?_append_left (by rw [h.rl]; omega)]; exact h1, by rw [updN_other _ _ e1]; exact h2⟩
  · by_cases e1 : j = i
    · subst e1
      refine ⟨⟨vo, hs⟩, ?_, hl, ?_⟩
      · rw [List.getElem?_append_right (by rw [h.wl]; exact Nat.le_refl _), h.wl, Nat.sub_self]
        rfl
      · rw [updN_same, updN_same]
        exact hd
    · obtain ⟨x, h1, h2⟩ := h.seg j (by omega)
      exact ⟨x, by rw [List.getElem?_append_left (by rw [h.wl]; omega)]; exact h1, by rw [updN_other _ _ e1, updN_other _ _ e1]; exact h2⟩
/-- What is left of the rows. -/
structure RstAt (F : CFix) (W : World) (cR : Nat) (rs : List Hl) (pos : Nat → Nat) : Prop where
  own : W.ownsRow 0 32 1 (.slice (some ⟨F.gR, 0, none⟩) F.n cR) F.n (rs.flatMap Hl.cs)
  len : rs.length = F.n
  at_ : ∀ j, j < F.n → ∃ h, rs[j]? = some h ∧ h.l = (F.R j).drop (pos j) ∧ Row It.cs 11 W h.row h.l ∧ ∀ k, h.row.ownBlock = some k → 0 < h.l.length → F.Still k
section
variable {F : CFix} {bs : Nat} {W0 W : World} {vr vp : Value} {rs : List Hl} {ws : List Wn}
theorem BSt.want (h : BSt bs W vr vp F.vW rs F.n ws) (hr : BRows F.B F.n F.R F.E rs ws) (hn : 1 ≤ F.n) (hS : ∀ k, bs ≤ k → k < W.heap.size → k ≠ F.gP → k ≠ F.gR → F.Still k) (hP : vp.ownBlock = some F.gP) (hR : vr.ownBlock = some F.gR) : WantAt F W := by
  obtain ⟨g, cap, e, hg1, hg2, -⟩ := own_form h.wan (by rw [hr.wl]; omega)
  have hro := Row.of_own Wn.cs_len h.wan rfl
  have hgo : F.vW.ownBlock = some g := by rw [e]; rfl
  have n1 := nn_ne (own_ne h.wan h.pas (by decide)) hgo
  have n2 := nn_ne (own_ne h.wan h.rows (by decide)) hgo
  rw [hP] at n1
  rw [hR] at n2
  refine ⟨g, 0, cap, by rw [e, hr.wl], hS g hg1 hg2 (fun e => n1 (by rw [e])) (fun e => n2 (by rw [e])), fun i hi => ?_⟩
  obtain ⟨u, hu, hul, hud⟩ := hr.seg i hi
  have hum := List.mem_of_getElem? hu
  obtain ⟨hrr, hsep⟩ := h.wit u hum
  obtain ⟨b1, o1, c1, hv1, -, -, hY⟩ := hro.at_ hu
  rw [e] at hv1
  injection hv1 with e1 e2 e3
  injection e1 with e1
  injection e1 with e1 e5 e6
  subst e1 e5
  have r0 := hY 0 _ rfl
  obtain ⟨bi, ci, ei, hb1, hb2, -⟩ := own_form hrr.own (by rw [hul]; omega)
  have hbo : u.row.ownBlock = some bi := by rw [ei]; rfl
  obtain ⟨s1, s2⟩ := hsep bi hbo
  rw [hR] at s1
  rw [hP] at s2
  refine ⟨bi, ci, by rw [← hul, ← ei]; simpa using r0, hS bi hb1 hb2 (fun e => s2 (by rw [e])) (fun e => s1 (by rw [e])), fun d hd => ?_⟩
  obtain ⟨x, hx, hxl⟩ := hud d hd
  have hxm := List.mem_of_getElem? hx
  have hri := Row.of_own Hl.cs_len hrr.own rfl
  obtain ⟨b2, o2, c2, hv2, -, -, hZ⟩ := hri.at_ hx
  rw [ei] at hv2
  injection hv2 with e1 e2 e3
  injection e1 with e1
  injection e1 with e1 e5 e6
  subst e1 e5
  have q0 := hZ 0 _ rfl
  have hit := Row.of_own It.cs_len (hrr.rows x hxm) rfl
  have hseg : ∀ y ∈ x.l, y ∈ F.R i := fun y hy => by rw [hxl] at hy; exact List.mem_of_mem_take (List.mem_of_mem_drop hy)
  have hlen : x.l.length ≤ maxLen := by
    have h1 := (hr.row i hi).len
    rw [hxl, List.length_drop, List.length_take]
    unfold maxLen
    omega
  refine ⟨x.row, by simpa using q0, by rw [← hxl]; exact ⟨hit, fun y hy => ((hr.row i hi).ok y (hseg y hy)).2, hlen⟩, fun k hk _ => ?_⟩
  have hl := (hrr.rows x hxm).lt k hk
  have m1 := nn_ne (own_ne (hrr.rows x hxm) h.pas (by decide)) hk
  have m2 := nn_ne (own_ne (hrr.rows x hxm) h.rows (by decide)) hk
  rw [hP] at m1
  rw [hR] at m2
  exact hS k hl.1 hl.2 (fun e => m1 (by rw [e])) (fun e => m2 (by rw [e]))
theorem WantAt.below {F : CFix} {W W' : World} (h : WantAt F W) (hb : Below W.heap.size W W') : WantAt F W' := by
  obtain ⟨bw, ow, cw, e, hw, h⟩ := h
  refine ⟨bw, ow, cw, e, hw, fun i hi => ?_⟩
  obtain ⟨bi, ci, h1, h2, h3⟩ := h i hi
  refine ⟨bi, ci, (hb.cell (cell_lt h1)).trans h1, h2, fun d hd => ?_⟩
  obtain ⟨v, h4, h5, h6⟩ := h3 d hd
  exact ⟨v, (hb.cell (cell_lt h4)).trans h4, h5.below hb, h6⟩
/-- What the closure finds at first. -/
theorem BSt.start (h : BSt bs W0 vr vp F.vW rs F.n ws) (hr : BRows F.B F.n F.R F.E rs ws) (hn : 1 ≤ F.n) (hb : Below W0.heap.size W0 W) (hvp : vp = .slice (some ⟨F.gP, 0, none⟩) F.n F.cP) {cR : Nat} (hvr' : vr = .slice (some ⟨F.gR, 0, none⟩) F.n cR)
    (o1 : F.bA < F.bP) (o2 : F.bP < F.bW) (o3 : F.bW < bs) (o4 : W0.heap.size ≤ F.bC) (o5 : F.bC < F.bOK) (o6 : F.bOK < F.bF) (o7 : F.bF < F.bs) (hbs : F.bs = W.heap.size) {va : Value} {a : Aln}
    (hA : ∃ x0 x1 x2, va = .agg #[x0, x1, x2] ∧ W.heap[F.bA]? = some (.cells #[x0, x1, x2] 26 (0, 0))) (hOK : W.heap[F.bOK]? = some (.cells #[.bool true] 4 (0, 0))) (hP : W.heap[F.bP]? = some (.cells #[.slice (some ⟨F.gP, 0, none⟩) F.n F.cP] 22 (0, 0)))
    (hC : W.heap[F.bC]? = some (.cells #[.int .i64 0] 3 (0, 0))) (hWn : W.heap[F.bW]? = some (.cells #[F.vW] 31 (0, 0))) (hFn : W.heap[F.bF]? = some (.cells #[F.vF] 35 (0, 0))) (hal : AlAt W va a) (hoff : ∀ k, AlBlk va a k → k < F.bA) :
    F.Ok ∧ CMem F W 0 va a (List.replicate F.n hZ) ∧ RstAt F W cR rs (fun _ => 0) := by
  have hvr : vr.ownBlock = some F.gR := by rw [hvr']; rfl
  have hpo : vp.ownBlock = some F.gP := by rw [hvp]; rfl
  have gp := h.pas.lt _ hpo
  have gr := h.rows.lt _ hvr
  have gne : F.gP ≠ F.gR := fun e => h.rp F.gR hvr (by rw [hpo, e])
  have hS : ∀ k, bs ≤ k → k < W0.heap.size → k ≠ F.gP → k ≠ F.gR → F.Still k := fun k h1 h2 h3 h4 => ⟨by omega, by omega, by omega, h3, h4⟩
  have hl := h.le
  refine ⟨⟨⟨by omega, by omega, by omega, by omega, by omega⟩, ⟨by omega, by omega, by omega, by omega, by omega⟩, ⟨by omega, by omega, by omega, by omega, by omega⟩, ⟨by omega, by omega, by omega, by omega, by omega⟩, ⟨by omega, by omega, by omega, by omega⟩, ⟨by omega, by omega, by omega⟩, ⟨by omega, gne⟩, by omega⟩, ⟨by omega, hA, hOK, hP, hC, hWn, hFn, ?_, by simp, fun x hx => ?_, fun i j x y hij hx hy => .inl ?_, hal, fun k hk => ?_, (h.want hr hn hS hpo hvr).below hb⟩, ?_, hr.rl, fun j hj => ?_⟩
  · have := own_base (own_below h.pas hb) (Nat.zero_le _)
    rw [hvp] at this
    exact this
  · obtain rfl := List.eq_of_mem_replicate hx
    exact World.ownsRow_nil _ _ _ _
  · obtain rfl := List.eq_of_mem_replicate (List.mem_of_getElem? hx)
    rfl
  · have := hoff k hk
    refine ⟨by omega, by omega, by omega, by omega, fun x hx e => ?_⟩
    obtain rfl := List.eq_of_mem_replicate hx
    simp [hZ, Value.ownBlock] at e
  · have := own_base (own_below h.rows hb) (Nat.zero_le _)
    rw [hvr', hr.rl] at this
    exact this
  · obtain ⟨x, hx, hxl⟩ := hr.at_ j hj
    have hxm := List.mem_of_getElem? hx
    refine ⟨x, hx, by rw [hxl, List.drop_zero], Row.of_own It.cs_len (own_below (h.rit x hxm) hb) rfl, fun k hk _ => ?_⟩
    have hl := (h.rit x hxm).lt k hk
    have m1 := nn_ne (own_ne (h.rit x hxm) h.pas (by decide)) hk
    have m2 := nn_ne (own_ne (h.rit x hxm) h.rows (by decide)) hk
    rw [hpo] at m1
    rw [hvr] at m2
    exact hS k hl.1 hl.2 (fun e => m1 (by rw [e])) (fun e => m2 (by rw [e]))
end
section
variable {F : CFix} {W W' : World} {c cR : Nat} {va : Value} {a : Aln} {hs hs' rs : List Hl} {pos : Nat → Nat}
theorem RstAt.kept (h : RstAt F W cR rs pos) (hF : F.Ok) (hM : CMem F W c va a hs) (hK : Kept F W hs W' hs') : RstAt F W' cR rs pos := by
  have hz := hM.size
  have hz2 := hK.size
  have hgr := hF.gr
  refine ⟨own_keep h.own (fun k hk => ?_), h.len, fun j hj => ?_⟩
  · have hk : F.gR = k := Option.some.inj hk
    subst hk
    exact hK.blk _ (by omega) (fun e => hF.a.2.2.2 e.symm) (fun e => hF.c.2.2 e.symm) (fun e => hF.g.2 e.symm) (fun x hx e => by have := (hM.row_bs hx e).1; omega)
  · obtain ⟨x, h1, h2, h3, h4⟩ := h.at_ j hj
    exact ⟨x, h1, h2, h3.keepIn (fun b hb hl => by
      obtain ⟨s1, s2, s3, s4, s5⟩ := h4 b hb hl
      exact hK.blk b (by omega) s2 s3 s4 (fun x hx e => by have := (hM.row_bs hx e).1; omega)) hz2, h4⟩
theorem RstAt.below (h : RstAt F W cR rs pos) (hb : Below W.heap.size W W') : RstAt F W' cR rs pos :=
  ⟨own_below h.own hb, h.len, fun j hj => by
    obtain ⟨x, h1, h2, h3, h4⟩ := h.at_ j hj
    exact ⟨x, h1, h2, h3.below hb, h4⟩⟩
/-- The first of a row is taken. -/
theorem RstAt.turn (h : RstAt F W cR rs pos) {k : Nat} (hk : k < F.n) {y : Hl} (hy : rs[k]? = some y) {b o cy : Nat} (hyr : y.row = .slice (some ⟨b, o, none⟩) y.l.length cy) (hl : 0 < y.l.length) :
    RstAt F (W.setCell ⟨F.gR, k, none⟩ (.slice (if cy = 1 then some ⟨b, o, none⟩ else some ⟨b, o + 11, none⟩) (y.l.length - 1) (cy - 1))) cR (rs.set k ⟨.slice (if cy = 1 then some ⟨b, o, none⟩ else some ⟨b, o + 11, none⟩) (y.l.length - 1) (cy - 1), y.l.drop 1⟩) (updN pos k (pos k + 1)) := by
  obtain ⟨v, hv⟩ : ∃ v, v = Value.slice (if cy = 1 then some ⟨b, o, none⟩ else some ⟨b, o + 11, none⟩) (y.l.length - 1) (cy - 1) := ⟨_, rfl⟩
  rw [← hv]
  have hkl : k < rs.length := by rw [h.len]; exact hk
  have hkp : ∀ j, j ≠ F.gR → (W.setCell ⟨F.gR, k, none⟩ v).heap[j]? = W.heap[j]? := fun j hne => Below.heap_setCell W ⟨F.gR, k, none⟩ v j hne
  have hsz : (W.setCell ⟨F.gR, k, none⟩ v).heap.size = W.heap.size := by simp [World.setCell]
  refine ⟨own_held h.own hkl ⟨v, y.l.drop 1⟩, by rw [List.length_set]; exact h.len, fun j hj => ?_⟩
  by_cases e : j = k
  · subst e
    obtain ⟨x, h1, h2, h3, h4⟩ := h.at_ j hj
    rw [hy] at h1
    injection h1 with h1
    subst h1
    refine ⟨_, List.getElem?_set_self hkl, ?_, ?_, ?_⟩
    · show y.l.drop 1 = _
      rw [updN_same, h2, List.drop_drop]
    · rw [hyr] at h3
      have h5 := h3.drop (j := 1) (by omega)
      rw [Nat.one_mul] at h5
      show Row It.cs 11 _ v (y.l.drop 1)
      rw [hv]
      rw [hv] at hkp hsz
      refine h5.keepIn (fun q hq hl2 => hkp q (h4 q ?_ hl).2.2.2.2) (by omega)
      rw [hyr]
      split at hq <;> exact hq
    · intro q hq _
      refine h4 q ?_ hl
      rw [hyr]
      show some b = some q
      have hq : v.ownBlock = some q := hq
      rw [hv] at hq
      split at hq <;> exact hq
  · obtain ⟨x, h1, h2, h3, h4⟩ := h.at_ j hj
    exact ⟨x, by rw [List.getElem?_set_ne (fun e2 => e e2.symm)]; exact h1, by rw [updN_other _ _ e]; exact h2, h3.keepIn (fun q hq hl2 => hkp q (h4 q hq hl2).2.2.2.2) (by omega), h4⟩
theorem CMem.setR (h : CMem F W c va a hs) (hF : F.Ok) (hk : ∀ k, k ≠ F.gR → W'.heap[k]? = W.heap[k]?) (hs' : W'.heap.size = W.heap.size) : CMem F W' c va a hs := by
  have hz := h.size
  have hgr := hF.gr
  obtain ⟨x0, x1, x2, e, hA⟩ := h.A
  exact ⟨by omega, ⟨x0, x1, x2, e, (hk _ hF.a.2.2.2).trans hA⟩, (hk _ hF.ok.2.2.2.2).trans h.OK, (hk _ hF.p.2.2.2.2).trans h.P, (hk _ hF.c.2.2).trans h.C, (hk _ hF.w.2.2.2.2).trans h.Wn, (hk _ hF.f.2.2.2.2).trans h.Fn,
    own_keep h.own (fun j hj => hk j (fun e => hF.g.2 (by have : F.gP = j := Option.some.inj hj; omega))), h.len, fun x hx => own_keep (h.rows x hx) (fun j hj => hk j (fun e => by have := (h.row_bs hx hj).1; omega)), h.dis, h.al.keepIn (fun b hb => hk b (h.off b hb).2.2.2.1) (by omega), h.off, h.want.keep (fun k hk2 => hk k hk2.2.2.2.2) (by omega)⟩
/-- Nothing that was there ahead of the call has turned. -/
theorem Kept.old (h : Kept F W hs W' hs') (hM : CMem F W c va a hs) {m : Nat} (h1 : m ≤ F.bA) (h2 : m ≤ F.bC) (h3 : m ≤ F.gP) (h4 : m ≤ F.bs) : Below m W W' := by
  have hz := hM.size
  refine ⟨h.io.1, h.io.2.1, h.io.2.2, h.size, fun k hk => h.blk k (by omega) (by omega) (by omega) (by omega) (fun x hx e => by have := (hM.row_bs hx e).1; omega)⟩
end
end Go.Proofs.Ytenpgkkefielfaa
