/-
  WALKS of layer 19: the law SinkOnce.
-/
import Derived.Test.YtenpgkkefielfaaSinkW33
import Derived.Deep.CutBlock
import Derived.Deep.RegionHeld3
import Derived.Deep.CutRange
set_option linter.unusedVariables false
set_option linter.unusedSimpArgs false
namespace Go.Proofs.Ytenpgkkefielfaa
open Go.RowKit

abbrev sV (A1 : Option Addr) (n1 c1 : Nat) (A2 : Option Addr) (n2 c2 : Nat) (l : Int) (A3 : Option Addr) (n3 c3 : Nat) : Array Value := #[.slice A1 n1 c1, .slice A2 n2 c2, .int .i64 l, .slice A3 n3 c3]
theorem call_done {w wr W8 W9 : World} {vo vu vg vs : Value} {k K : Snk} {op out : List Res} {gs : List Stg} {E : Int} {a b c d : Value}
    (hG : Gh wr (w.heap.size + 1) vo vu vg op out gs) (hR : Rd w wr vo vu vg vs k) (hw : w.heap.size < wr.heap.size) (hb : Below wr.heap.size wr W8) {bx : Nat} (hx : wr.heap.size ≤ bx) (hx8 : bx < W8.heap.size)
    (hk : KAt W9 (.agg #[a, b, c, d]) K) (hl : E = 0 → LocK W8 W9 vs (.agg #[a, b, c, d]) ∧ StFrom vs k K) (h9 : Below W8.heap.size W8 W9) :
    Gh ((((W9.setCell ⟨bx, 0, none⟩ a).setCell ⟨bx, 1, none⟩ b).setCell ⟨bx, 2, none⟩ c).setCell ⟨bx, 3, none⟩ d) (w.heap.size + 1) vo vu vg op out gs ∧
    Rd w ((((W9.setCell ⟨bx, 0, none⟩ a).setCell ⟨bx, 1, none⟩ b).setCell ⟨bx, 2, none⟩ c).setCell ⟨bx, 3, none⟩ d) vo vu vg vs k ∧
    (E = 0 → Rd w ((((W9.setCell ⟨bx, 0, none⟩ a).setCell ⟨bx, 1, none⟩ b).setCell ⟨bx, 2, none⟩ c).setCell ⟨bx, 3, none⟩ d) vo vu vg (.agg #[a, b, c, d]) K) := by
  have g8 := hG.below hb
  have r8 := hR.below hb
  refine ⟨(g8.below h9).setF hG hx (set4g _ _ _ _ _ _), (r8.below h9).set (hR.in_.off hx) (set4g _ _ _ _ _ _), fun hE => ?_⟩
  obtain ⟨h1, h2⟩ := hl hE
  exact (r8.loc g8 (Nat.lt_of_lt_of_le hw hb.size) hk h9 h1 h2).set ((hR.in_.off hx).loc hx8 h1 h2) (set4g _ _ _ _ _ _)
/-- What holds at the head of an act: the sink reads as k, and the ghost rows as what it must be. -/
def Hd (w : World) (vo vu vg : Value) (W : World) : Prop :=
  ∃ (k : Snk) (gs : List Stg) (A1 : Option Addr) (n1 c1 : Nat) (A2 : Option Addr) (n2 c2 : Nat) (l : Int) (A3 : Option Addr) (n3 c3 : Nat),
    W.heap[w.heap.size]? = some (.cells (sV A1 n1 c1 A2 n2 c2 l A3 n3 c3) 66 (0, 0)) ∧ Rd w W vo vu vg (.agg (sV A1 n1 c1 A2 n2 c2 l A3 n3 c3)) k ∧ k.right = true ∧ Gh W (w.heap.size + 1) vo vu vg k.op k.out gs ∧ PS gs = PS k.st ∧ Below w.heap.size w W
def HdRel (w : World) (n : Nat) (vo vu vg i : Value) (wr : World) : Prop := ∃ j : Nat, j ≤ n ∧ i = .int .i64 j ∧ Hd w vo vu vg wr
/-- What holds when the act is done: the answer lies in block bx. -/
def Mid (w : World) (sc : Array Value) (k : Snk) (bx : Nat) (vo vu vg e : Value) (W : World) : Prop :=
  ∃ (E : Int) (k' : Snk) (gs : List Stg) (B1 : Option Addr) (m1 d1 : Nat) (B2 : Option Addr) (m2 d2 : Nat) (lx : Int) (B3 : Option Addr) (m3 d3 : Nat), e = .int .i64 E ∧
    W.heap[w.heap.size]? = some (.cells sc 66 (0, 0)) ∧ W.heap[bx]? = some (.cells (sV B1 m1 d1 B2 m2 d2 lx B3 m3 d3) 66 (0, 0)) ∧ Rd w W vo vu vg (.agg sc) k ∧ Below w.heap.size w W ∧
    ((E ≠ 0 ∧ Gh W (w.heap.size + 1) vo vu vg k.op k.out gs ∧ PS gs = PS k.st) ∨ (E = 0 ∧ Rd w W vo vu vg (.agg (sV B1 m1 d1 B2 m2 d2 lx B3 m3 d3)) k' ∧ Gh W (w.heap.size + 1) vo vu vg k'.op k'.out gs ∧ PS gs = PS k'.st ∧ Grew k k'))
theorem act_cells {W : World} {A : Option Addr} {n c : Nat} {l : List Ac} (h : Row Ac.cs 7 W (.slice A n c) l) {j : Nat} {a : Ac} (hj : l[j]? = some a) : ∃ b o, A = some ⟨b, o, none⟩ ∧ b < W.heap.size ∧ ∀ i u, a.cs[i]? = some u → W.cell? ⟨b, o + j * 7 + i, none⟩ = some u := by
  obtain ⟨A', c', e, hc, h⟩ := h
  injection e with e1 e2 e3
  subst e1 e2 e3
  have hl : 0 < l.length := by
    have := (List.getElem?_eq_some_iff.1 hj).1
    omega
  obtain ⟨b, o, ha, hb, hx⟩ := h hl
  exact ⟨b, o, ha, hb, fun i u hu => hx j a i u hj hu⟩
theorem hd_zero (w : World) : Hd w (.slice none 0 0) (.slice none 0 0) (.slice none 0 0) (w.alloc (.cells #[.slice none 0 0, .slice none 0 0, .int .i64 0, .slice none 0 0] 66)) := by
  refine ⟨zK, [], none, 0, 0, none, 0, 0, 0, none, 0, 0, heap_at _ _ _ rfl, ⟨zK_at _, ?_, ?_, koff_nil _ _, koff_nil _ _, koff_nil _ _⟩, zK_right, Gh.nil _ _, rfl, bel_alloc (Below.refl _ _) _⟩
  · exact ⟨⟨_, _, _, _, rfl, by simp [Value.ownBlock], by simp [Value.ownBlock], by simp [Value.ownBlock]⟩, by simp [zK]⟩
  · exact ⟨⟨_, _, _, _, rfl, by simp [Value.ownBlock], by simp [Value.ownBlock], by simp [Value.ownBlock]⟩, by simp [zK]⟩
theorem ownT_slice {W : World} {B : Nat} {e : TypeId} {s : Nat} {v : Value} {n : Nat} {xs : List Value} (h : OwnT W B e s v n xs) : ∃ A c, v = .slice A n c := by
  rcases h.2 with ⟨rfl, rfl⟩ | ⟨g, off, cap, cur, rfl, -⟩
  · exact ⟨_, _, rfl⟩
  · exact ⟨_, _, rfl⟩
theorem ownT_cell {W : World} {B : Nat} {e : TypeId} {s b o n c : Nat} {xs : List Value} (h : OwnT W B e s (.slice (some ⟨b, o, none⟩) n c) n xs) {j : Nat} {u : Value} (hj : xs[j]? = some u) : b < W.heap.size ∧ W.cell? ⟨b, o + j, none⟩ = some u := by
  have hl := (List.getElem?_eq_some_iff.1 hj).1
  rw [h.1] at hl
  rcases h.2 with ⟨e, -⟩ | ⟨g, off, cap, cur, hv, h1, h2, h3, h4, h5, h6⟩
  · cases e
  · injection hv with e1 e2 e3
    injection e1 with e1
    injection e1 with e1 e4 e5
    subst e1 e4 e3
    exact ⟨blk_lt h2, by rw [cellsAt h2, h6 j hl]; exact hj⟩
theorem ownT_cap {W : World} {B : Nat} {e : TypeId} {s n c : Nat} {A : Option Addr} {xs : List Value} (h : OwnT W B e s (.slice A n c) n xs) : n ≤ c := by
  rcases h.2 with ⟨e, rfl⟩ | ⟨g, off, cap, cur, hv, h1, h2, h3, h4, h5, h6⟩
  · omega
  · injection hv with e1 e2 e3
    omega
theorem ghost_room {k : Snk} {gs t r : List Stg} {x : Stg} (h : gs = t ++ x :: r) (hps : PS gs = PS k.st) (hr : k.right = true) : (k.out ++ t.flatMap Stg.l).length + x.l.length ≤ 20000 := by
  have h4 := ((right_iff _ _ _ _).1 hr).2.2.2.1
  rw [← ps_flat hps, h] at h4
  simp only [List.flatMap_append, List.flatMap_cons, List.length_append] at h4 ⊢
  omega
theorem keepO4 {W w' : World} {g : Nat} {v0 v1 v2 v3 : Value} (h : Below W.heap.size W w' ∧ w'.cell? ⟨g, 0, none⟩ = some v0 ∧ w'.cell? ⟨g, 1, none⟩ = some v1 ∧ w'.cell? ⟨g, 2, none⟩ = some v2 ∧ w'.cell? ⟨g, 3, none⟩ = some v3) :
    Below W.heap.size W w'.drew ∧ w'.drew.cell? ⟨g, 0, none⟩ = some v0 ∧ w'.drew.cell? ⟨g, 1, none⟩ = some v1 ∧ w'.drew.cell? ⟨g, 2, none⟩ = some v2 ∧ w'.drew.cell? ⟨g, 3, none⟩ = some v3 := ⟨Below.drew h.1, h.2⟩
theorem keepO4b {W w' w'' : World} {g : Nat} {v0 v1 v2 v3 : Value} (h : Below W.heap.size W w' ∧ w'.cell? ⟨g, 0, none⟩ = some v0 ∧ w'.cell? ⟨g, 1, none⟩ = some v1 ∧ w'.cell? ⟨g, 2, none⟩ = some v2 ∧ w'.cell? ⟨g, 3, none⟩ = some v3) (hg : g < W.heap.size) (hb : Below w'.heap.size w' w'') :
    Below W.heap.size W w'' ∧ w''.cell? ⟨g, 0, none⟩ = some v0 ∧ w''.cell? ⟨g, 1, none⟩ = some v1 ∧ w''.cell? ⟨g, 2, none⟩ = some v2 ∧ w''.cell? ⟨g, 3, none⟩ = some v3 := by
  obtain ⟨b, c0, c1, c2, c3⟩ := h
  have hs := Nat.lt_of_lt_of_le hg b.size
  exact ⟨bThen b hb, (hb.cell (p := ⟨g, 0, none⟩) hs).trans c0, (hb.cell (p := ⟨g, 1, none⟩) hs).trans c1, (hb.cell (p := ⟨g, 2, none⟩) hs).trans c2, (hb.cell (p := ⟨g, 3, none⟩) hs).trans c3⟩
theorem keepP4 {W w' : World} {g h : Nat} {v0 v1 v2 v3 : Value} (H : Below W.heap.size W w' ∧ w'.cell? ⟨g, 2, none⟩ = some v0 ∧ w'.cell? ⟨g, 3, none⟩ = some v1 ∧ w'.cell? ⟨h, 2, none⟩ = some v2 ∧ w'.cell? ⟨h, 3, none⟩ = some v3) :
    Below W.heap.size W w'.drew ∧ w'.drew.cell? ⟨g, 2, none⟩ = some v0 ∧ w'.drew.cell? ⟨g, 3, none⟩ = some v1 ∧ w'.drew.cell? ⟨h, 2, none⟩ = some v2 ∧ w'.drew.cell? ⟨h, 3, none⟩ = some v3 := ⟨Below.drew H.1, H.2⟩
theorem keepP4b {W w' w'' : World} {g h : Nat} {v0 v1 v2 v3 : Value} (H : Below W.heap.size W w' ∧ w'.cell? ⟨g, 2, none⟩ = some v0 ∧ w'.cell? ⟨g, 3, none⟩ = some v1 ∧ w'.cell? ⟨h, 2, none⟩ = some v2 ∧ w'.cell? ⟨h, 3, none⟩ = some v3) (hg : g < W.heap.size) (hh : h < W.heap.size) (hb : Below w'.heap.size w' w'') :
    Below W.heap.size W w'' ∧ w''.cell? ⟨g, 2, none⟩ = some v0 ∧ w''.cell? ⟨g, 3, none⟩ = some v1 ∧ w''.cell? ⟨h, 2, none⟩ = some v2 ∧ w''.cell? ⟨h, 3, none⟩ = some v3 := by
  obtain ⟨b, c0, c1, c2, c3⟩ := H
  have hs := Nat.lt_of_lt_of_le hg b.size
  have hs' := Nat.lt_of_lt_of_le hh b.size
  exact ⟨bThen b hb, (hb.cell (p := ⟨g, 2, none⟩) hs).trans c0, (hb.cell (p := ⟨g, 3, none⟩) hs).trans c1, (hb.cell (p := ⟨h, 2, none⟩) hs').trans c2, (hb.cell (p := ⟨h, 3, none⟩) hs').trans c3⟩
theorem alloc_news (W : World) (cs : Array Value) (T : TypeId) (l : List Value) (h : cs.toList = l) : ∀ j u, l[j]? = some u → (W.alloc (.cells cs T)).cell? ((⟨W.heap.size, 0, none⟩ : Addr).add j) = some u := by
  intro j u hj
  rw [add_at, cellsAt (heap_at W _ _ rfl), Nat.zero_add, ← hj, ← h]
  exact Array.getElem?_toList.symm
theorem own_ne3 {W : World} {vo vu vg : Value} {op out : List Res} {gs : List Stg} {B b : Nat} (hG : Gh W B vo vu vg op out gs) (hb : b < B ∨ W.heap.size ≤ b) : vo.ownBlock ≠ some b ∧ vu.ownBlock ≠ some b ∧ vg.ownBlock ≠ some b :=
  ⟨fun e => by have := hG.o.lt b e; omega, fun e => by have := hG.u.lt b e; omega, fun e => by have := hG.g.lt b e; omega⟩
theorem cut_while {n : Int} : ∀ {t r : List Stg}, (∀ x ∈ t, x.n ≤ n) → (∀ x, r.head? = some x → n < x.n) → (t ++ r).takeWhile (lowB n) = t ∧ (t ++ r).dropWhile (lowB n) = r
  | [], [], _, _ => ⟨rfl, rfl⟩
  | [], y :: r, _, h => by
    have hy : ¬ lowB n y = true := by unfold lowB; have := h y rfl; simp; omega
    rw [List.nil_append, List.takeWhile_cons_of_neg hy, List.dropWhile_cons_of_neg hy]
    exact ⟨rfl, rfl⟩
  | x :: t, r, h1, h2 => by
    have hx : lowB n x = true := by unfold lowB; simpa using h1 x (by simp)
    obtain ⟨i1, i2⟩ := cut_while (t := t) (r := r) (fun y hy => h1 y (List.mem_cons_of_mem _ hy)) h2
    rw [List.cons_append, List.takeWhile_cons_of_pos hx, List.dropWhile_cons_of_pos hx, i1, i2]
    exact ⟨rfl, rfl⟩
theorem com_ghost {k : Snk} {n : Int} {gs t r : List Stg} (h : comE k n = 0) (hps : PS gs = PS k.st) (hgs : gs = t ++ r) (h1 : ∀ x ∈ t, x.n ≤ n) (h2 : ∀ x, r.head? = some x → n < x.n) :
    k.op = (comK k n).op ∧ k.out ++ t.flatMap Stg.l = (comK k n).out ∧ PS r = PS (comK k n).st := by
  obtain ⟨-, e1, e2, e3⟩ := once_com h
  obtain ⟨w1, w2⟩ := cut_while h1 h2
  obtain ⟨p1, p2⟩ := ps_while (n := n) hps
  rw [hgs, w2] at p1
  rw [hgs, w1] at p2
  exact ⟨e1.symm, by rw [e3, ps_flat p2], by rw [e2, p1]⟩
def lenV : Value → Nat
  | .slice _ n _ => n
  | _ => 0
/-- What holds at the head of the loop that takes stages over. -/
def LpRel (w : World) (gs : List Stg) (sc ac xc : Array Value) (k K : Snk) (ba bx : Nat) (n : Int) (vo vu vg : Value) (W : World) : Prop :=
  ∃ t r : List Stg, gs = t ++ r ∧ (∀ x ∈ t, x.n ≤ n) ∧ Gh W (w.heap.size + 1) vo vu vg k.op (k.out ++ t.flatMap Stg.l) r ∧ Rd w W vo vu vg (.agg sc) k ∧ Rd w W vo vu vg (.agg xc) K ∧
    W.heap[w.heap.size]? = some (.cells sc 66 (0, 0)) ∧ W.heap[ba]? = some (.cells ac 80 (0, 0)) ∧ W.heap[bx]? = some (.cells xc 66 (0, 0)) ∧ vu.ownBlock ≠ some ba ∧ vu.ownBlock ≠ some bx ∧ Below w.heap.size w W
theorem moved_ne {W : World} {v v' : Value} {b : Nat} (h : Moved W v v') (hb : b < W.heap.size) (hv : v.ownBlock ≠ some b) : v'.ownBlock ≠ some b := by
  rcases h with e | e
  · rw [e]; exact hv
  · intro e2
    have := e b e2
    omega
theorem res_one (r : Res) : ∀ u ∈ r.cs, u.oneCell' = true := by
  intro u hu
  unfold Res.cs at hu
  simp at hu
  rcases hu with rfl | rfl | rfl | rfl | rfl <;> rfl
theorem stage_one (an : Int) (A : Option Addr) (n c : Nat) : ∀ u ∈ [Value.int .i64 an, .slice A n c], u.oneCell' = true := by
  intro u hu
  simp at hu
  rcases hu with rfl | rfl <;> rfl
theorem info_or : (Try.prog.info? 41).map (fun i => (i.zero, i.size, i.bytes)) = some (some (.agg #[.int .i64 0, .int .i64 0, .string ⟨#[]⟩, .int .i64 0, .int .i64 0]), 5, 48) := by kernel_rfl
theorem info_og : (Try.prog.info? 82).map (fun i => (i.zero, i.size, i.bytes)) = some (some (.agg #[.int .i64 0, .slice none 0 0]), 2, 32) := by kernel_rfl

set_option maxRecDepth 100000 in
set_option maxHeartbeats 16000000 in
theorem once_walk (al : List Ac) (hwf : ∀ a ∈ al, a.Wf) (hml : al.length ≤ maxLen) (v : Value) (w : World) (hv : Row Ac.cs 7 w v al) :
    Calls Try.prog 12 #[v] w fun e w' => e = .returned (.bool true) ∧ Below w.heap.size w w' := by
  have HV := Lib.hid hv
  have HWF := Lib.hid hwf
  obtain ⟨n, hn⟩ : ∃ n, al.length = n := ⟨_, rfl⟩
  have HN := Lib.hid hn
  obtain ⟨A0, c0, rfl, hc0, -⟩ := hv
  rw [hn] at hml HV hc0 ⊢
  unfold maxLen at hml
  have HA := Lib.hid (fun v W k r (hr : r.Wf) hW => sadd_loc k r hr v W hW)
  have HS := Lib.hid (fun v W k n (hn : wfL n) hW => sstg_loc k n hn v W hW)
  have HC := Lib.hid (fun v W k n (hn : wfL n) hW => scom_loc k n hn v W hW)
  have HB := Lib.hid (fun v W k hW => sabo_loc k v W hW)
  have HL := Lib.hid (fun li va vb W ha hb => likeR_any li va vb W ha hb)
  have HR := Lib.hid (fun v W k hW => sright_all k v W hW)
  obtain ⟨iR, hi0, hz0, hz1, hz2⟩ := info_parts info_or
  have HI := Lib.hid hi0
  have HZ0 := Lib.hid hz0
  have HZ1 := Lib.hid hz1
  have HZ2 := Lib.hid hz2
  obtain ⟨iG, hi0', hz0', hz1', hz2'⟩ := info_parts info_og
  have GI := Lib.hid hi0'
  have GZ0 := Lib.hid hz0'
  have GZ1 := Lib.hid hz1'
  have GZ2 := Lib.hid hz2'
  clear hi0 hz0 hz1 hz2 hi0' hz0' hz1' hz2' hwf hn
  go_enter Try.func12, Try.ntmps12
  go_wp2_with fail
  have hs0 : Hd w (.slice none 0 0) (.slice none 0 0) (.slice none 0 0) (w.alloc (.cells #[.slice none 0 0, .slice none 0 0, .int .i64 0, .slice none 0 0] 66)) := hd_zero w
  go_loopw [4, 5, 6, 13] (fun vo vu vg i wr => HdRel w n vo vu vg i wr) (fun _ _ _ i _ => n - (intOf i).toNat)
  case atStart => exact ⟨0, Nat.zero_le _, rfl, hs0⟩
  case round =>
    obtain ⟨j, hj, rfl, k, gs, A1, n1, c1, A2, n2, c2, l, A3, n3, c3, hbs, hR, hr, hG, hps, hbb⟩ := hrel
    by_cases hjn : j < n
    · obtain ⟨a, ha⟩ : ∃ a, al[j]? = some a := ⟨_, List.getElem?_eq_getElem (by rw [HN.out]; exact hjn)⟩
      have hwa := HWF.out a (List.mem_of_getElem? ha)
      have HRa := Lib.hid hwa.2.2
      have HNa := Lib.hid hwa.2.1
      have hrow : Row Ac.cs 7 wr (.slice A0 n c0) al := Row.below HV.out hbb
      obtain ⟨b0, o0, rfl, hb0, hx⟩ := act_cells hrow ha
      obtain ⟨aw, an, rl, rh, rk, rn, rv⟩ := a
      have p0 := hx 0 _ rfl
      have p1 := hx 1 _ rfl
      have p2 := hx 2 _ rfl
      have p3 := hx 3 _ rfl
      have p4 := hx 4 _ rfl
      have p5 := hx 5 _ rfl
      have p6 := hx 6 _ rfl
      simp only [Nat.add_zero] at p0 p1 p2 p3 p4 p5 p6
      simp only at HRa HNa
      have Bls := Lib.hid hbs
      have KR := Lib.hid hR
      have KG := Lib.hid hG
      have KK := Lib.hid hr
      obtain ⟨Ao, co, rfl⟩ := ownT_slice hG.o
      obtain ⟨Au, cu, rfl⟩ := ownT_slice hG.u
      obtain ⟨Ag, cg, rfl⟩ := ownT_slice hG.g
      have KP := Lib.hid hps
      have BB := Lib.hid hbb
      clear hbs hR hG hr hps hbb hx hwa ha hrow hs0
      go_upto_region 7 with fail
      by_cases h200 : 200 ≤ j
      · have e200 : decide (200 ≤ (j : Int)) = true := decide_eq_true (by omega)
        go_wp2_with fail
        refine (alive_any _).mono ?_
        rintro e w8 ⟨rfl, hb8⟩
        go_wp2_with fail
        go_ret
        exact ⟨rfl, (bel_alloc BB.out _).trans (hb8.mono (bel_alloc BB.out _).size)⟩
      have e200 : decide (200 ≤ (j : Int)) = false := decide_eq_false (by omega)
      go_upto_region 10 with fail
      obtain ⟨W8, hW8⟩ : ∃ X, X = ((wr.alloc (.cells #[.int .i64 aw, .int .i64 an, .int .i64 rl, .int .i64 rh, .string rk, .int .i64 rn, .int .i64 rv] 80)).alloc (.cells #[.slice none 0 0, .slice none 0 0, .int .i64 0, .slice none 0 0] 66)) := ⟨_, rfl⟩
      rw [← hW8]
      have B8 := Lib.hid (show Below wr.heap.size wr W8 by rw [hW8]; exact bel_alloc (bel_alloc (Below.refl _ _) _) _)
      have Bla := Lib.hid (show W8.heap[wr.heap.size]? = some (.cells #[.int .i64 aw, .int .i64 an, .int .i64 rl, .int .i64 rh, .string rk, .int .i64 rn, .int .i64 rv] 80 (0, 0)) by rw [hW8]; exact heap_below (heap_at wr _ _ rfl) (bel_alloc (Below.refl _ _) _))
      have Blx := Lib.hid (show W8.heap[wr.heap.size + 1]? = some (.cells #[.slice none 0 0, .slice none 0 0, .int .i64 0, .slice none 0 0] 66 (0, 0)) by rw [hW8]; exact heap_at _ _ _ (by simp))
      clear hW8 p0 p1 p2 p3 p4 p5 p6
      have zw := blk_lt Bls.out
      replace Bls := Lib.hid (heap_below Bls.out B8.out)
      have za := blk_lt Bla.out
      have xa0 := cellsAt Bla.out 0
      simp at xa0
      go_upto_block 2 with fail
      clear za xa0
      go_cut [4, 5, 6, 10] from 14 to 133 (fun vo vu vg e W => Mid w (sV A1 n1 c1 A2 n2 c2 l A3 n3 c3) k (wr.heap.size + 1) vo vu vg e W)
      case first =>
        by_cases q0 : aw = 0
        · subst q0
          have KL := Lib.hid (right_lens KK.out)
          have KLg := Lib.hid (ps_len KP.out)
          have zs := blk_lt Bls.out
          have xs0 := cellsAt Bls.out 0
          have xs1 := cellsAt Bls.out 1
          have xs2 := cellsAt Bls.out 2
          have xs3 := cellsAt Bls.out 3
          have fs := frozAt Bls.out
          have za := blk_lt Bla.out
          have xa1 := cellsAt Bla.out 1
          have xa2 := cellsAt Bla.out 2
          have xa3 := cellsAt Bla.out 3
          have xa4 := cellsAt Bla.out 4
          have xa5 := cellsAt Bla.out 5
          have xa6 := cellsAt Bla.out 6
          have zx := blk_lt Blx.out
          have xx0 := cellsAt Blx.out 0
          have xx1 := cellsAt Blx.out 1
          have xx2 := cellsAt Blx.out 2
          have xx3 := cellsAt Blx.out 3
          have fx := frozAt Blx.out
          simp at xs0 xs1 xs2 xs3 xa1 xa2 xa3 xa4 xa5 xa6 xx0 xx1 xx2 xx3
          go_wp2_with fail
          refine (HA.out _ _ k ⟨rl, rh, rk, rn, rv⟩ HRa.out (KAt.below KR.out.at_ B8.out)).mono ?_
          rintro e w9 ⟨⟨v9, rfl, hk9, hl9⟩, h9⟩
          obtain ⟨E, hE⟩ : ∃ E, addE k ⟨rl, rh, rk, rn, rv⟩ = E := ⟨_, rfl⟩
          obtain ⟨K, hK⟩ : ∃ K, addK k ⟨rl, rh, rk, rn, rv⟩ = K := ⟨_, rfl⟩
          rw [hE, hK] at hl9
          rw [hK] at hk9
          rw [hE]
          have HE := Lib.hid hE
          have HK := Lib.hid hK
          clear hE hK
          obtain ⟨B1, m1, d1, B2, m2, d2, lx, B3, m3, d3, rfl⟩ := k_form3 hk9
          clear zs xs0 xs1 xs2 xs3 fs za xa1 xa2 xa3 xa4 xa5 xa6 zx xx0 xx1 xx2 xx3 fx
          have b9 : Below wr.heap.size wr w9 := bThen B8.out h9
          have hbx : wr.heap.size + 1 < W8.heap.size := blk_lt Blx.out
          have KD := Lib.hid (call_done KG.out KR.out zw B8.out (Nat.le_succ _) hbx hk9 hl9 h9)
          have Nls := Lib.hid (heap_below Bls.out h9)
          have Nla := Lib.hid (heap_below Bla.out h9)
          have Nlx := Lib.hid (heap_below Blx.out h9)
          clear hk9 hl9
          have zx := blk_lt Nlx.out
          have xx0 := cellsAt Nlx.out 0
          have xx1 := cellsAt Nlx.out 1
          have xx2 := cellsAt Nlx.out 2
          have xx3 := cellsAt Nlx.out 3
          have fx := frozAt Nlx.out
          simp at xx0 xx1 xx2 xx3
          go_upto_region 16 with fail
          clear zx xx0 xx1 xx2 xx3 fx
          obtain ⟨W10, hW10⟩ : ∃ X, X = ((((w9.setCell ⟨wr.heap.size + 1, 0, none⟩ (.slice B1 m1 d1)).setCell ⟨wr.heap.size + 1, 1, none⟩ (.slice B2 m2 d2)).setCell ⟨wr.heap.size + 1, 2, none⟩ (.int .i64 lx)).setCell ⟨wr.heap.size + 1, 3, none⟩ (.slice B3 m3 d3)) := ⟨_, rfl⟩
          rw [← hW10] at KD ⊢
          have g10 : w9.grownBy W10 (some (wr.heap.size + 1)) := by rw [hW10]; exact set4g _ _ _ _ _ _
          replace Nls := Lib.hid (heap_grown Nls.out g10 (by simp; omega))
          replace Nla := Lib.hid (heap_grown Nla.out g10 (by simp))
          replace Nlx := Lib.hid (show W10.heap[wr.heap.size + 1]? = some (.cells (sV B1 m1 d1 B2 m2 d2 lx B3 m3 d3) 66 (0, 0)) by rw [hW10]; exact set4 Nlx.out _ _ _ _)
          have B10 := Lib.hid (show Below wr.heap.size wr W10 by rw [hW10]; exact bel4 b9 (Nat.le_succ _) _ _ _ _)
          clear hW10 g10 b9 hbx h9
          by_cases h0 : E = 0
          rotate_left
          · have v1 : (E == 0) = false := by simpa using h0
            have v2 : decide (E = 0) = false := by simpa using h0
            have HF := Lib.hid h0
            clear h0
            go_wp2_with fail
            go_meet
            exact ⟨E, K, gs, _, _, _, _, _, _, _, _, _, _, rfl, Nls.out, Nlx.out, KD.out.2.1, BB.out.trans (B10.out.mono BB.out.size), .inl ⟨HF.out, KD.out.1, KP.out⟩⟩
          subst h0
          have za := blk_lt Nla.out
          have xa1 := cellsAt Nla.out 1
          have xa2 := cellsAt Nla.out 2
          have xa3 := cellsAt Nla.out 3
          have xa4 := cellsAt Nla.out 4
          have xa5 := cellsAt Nla.out 5
          have xa6 := cellsAt Nla.out 6
          simp at xa1 xa2 xa3 xa4 xa5 xa6
          go_wp2_with (at_builtin; refine wpList_pushT rfl _ _ 63 rfl (w.heap.size + 1) 41 iR (.agg #[.int .i64 0, .int .i64 0, .string ⟨#[]⟩, .int .i64 0, .int .i64 0]) 5 48 Try.underlying63 HI.out HZ0.out HZ1.out HZ2.out rfl (by decide) _ _ _ rfl (KD.out.1.below (bel_alloc (Below.refl _ _) _)).o _ 1 _ (Res.cs ⟨rl, rh, rk, rn, rv⟩) rfl rfl (alloc_news _ _ _ _ rfl) (res_one _) (by unfold maxLen; have := KL.out.1; have := KL.out.2.1; have := KL.out.2.2.1; have := KLg.out; omega) (by have := KL.out.1; have := KL.out.2.1; have := KL.out.2.2.1; have := KLg.out; omega) (by have := B10.out.size; simp; omega) ?_)
          intro v11 W11 ho11 hg11 hm11
          obtain ⟨gw, ek⟩ := once_add HE.out
          rw [HK.out] at ek gw
          have hX : Below W10.heap.size W10 (W10.alloc (.cells #[.int .i64 rl, .int .i64 rh, .string rk, .int .i64 rn, .int .i64 rv] 41)) := bel_alloc (Below.refl _ _) _
          have NE1 := (own_ne3 KG.out (b := w.heap.size) (.inl (Nat.lt_succ_self _))).1
          have NE2 := (own_ne3 KG.out (b := wr.heap.size + 1) (.inr (Nat.le_succ _))).1
          have F1 := Lib.hid (heap_grown (heap_below Nls.out hX) hg11 NE1)
          have F2 := Lib.hid (heap_grown (heap_below Nlx.out hX) hg11 NE2)
          have F3 := Lib.hid (bel_grownO ((BB.out.trans (B10.out.mono BB.out.size)).trans (hX.mono (BB.out.trans (B10.out.mono BB.out.size)).size)) hg11 (by have := BB.out.size; have := B10.out.size; have := hX.size; omega) (fun g hg => by have := (KG.out.o.lt g hg).1; omega))
          have F4 := Lib.hid ((KD.out.1.below hX).pushO (by simpa [Res.cs] using ho11) hg11 hm11 (r := ⟨rl, rh, rk, rn, rv⟩))
          have F5 := Lib.hid ((KD.out.2.1.below hX).pushO hg11 hm11)
          have F6 := Lib.hid (((KD.out.2.2 (by simp)).below hX).pushO hg11 hm11)
          have F7 := Lib.hid gw
          clear ho11 hg11 hm11 hX NE1 NE2 gw
          go_wp2_with fail
          go_meet
          subst ek
          exact ⟨0, _, gs, _, _, _, _, _, _, _, _, _, _, rfl, F1.out, F2.out, F5.out, F3.out, .inr ⟨rfl, F6.out, F4.out, KP.out, F7.out⟩⟩
        have q0b : (aw == 0) = false := by simpa using q0
        by_cases q1 : aw = 1
        · subst q1
          clear q0 q0b
          have KL := Lib.hid (right_lens KK.out)
          have KLg := Lib.hid (ps_len KP.out)
          have zs := blk_lt Bls.out
          have xs0 := cellsAt Bls.out 0
          have xs1 := cellsAt Bls.out 1
          have xs2 := cellsAt Bls.out 2
          have xs3 := cellsAt Bls.out 3
          have fs := frozAt Bls.out
          have za := blk_lt Bla.out
          have xa1 := cellsAt Bla.out 1
          have xa2 := cellsAt Bla.out 2
          have xa3 := cellsAt Bla.out 3
          have xa4 := cellsAt Bla.out 4
          have xa5 := cellsAt Bla.out 5
          have xa6 := cellsAt Bla.out 6
          have zx := blk_lt Blx.out
          have xx0 := cellsAt Blx.out 0
          have xx1 := cellsAt Blx.out 1
          have xx2 := cellsAt Blx.out 2
          have xx3 := cellsAt Blx.out 3
          have fx := frozAt Blx.out
          simp at xs0 xs1 xs2 xs3 xa1 xa2 xa3 xa4 xa5 xa6 xx0 xx1 xx2 xx3
          go_wp2_with fail
          refine (HS.out _ _ k an HNa.out (KAt.below KR.out.at_ B8.out)).mono ?_
          rintro e w9 ⟨v8, ⟨v9, rfl, hk9, hl9⟩, h9⟩
          obtain ⟨E, hE⟩ : ∃ E, stgE k an = E := ⟨_, rfl⟩
          obtain ⟨K, hK⟩ : ∃ K, stgK k an v8 = K := ⟨_, rfl⟩
          rw [hE, hK] at hl9
          rw [hK] at hk9
          rw [hE]
          have HE := Lib.hid hE
          have HK := Lib.hid hK
          clear hE hK
          obtain ⟨B1, m1, d1, B2, m2, d2, lx, B3, m3, d3, rfl⟩ := k_form3 hk9
          clear zs xs0 xs1 xs2 xs3 fs za xa1 xa2 xa3 xa4 xa5 xa6 zx xx0 xx1 xx2 xx3 fx
          have b9 : Below wr.heap.size wr w9 := bThen B8.out h9
          have hbx : wr.heap.size + 1 < W8.heap.size := blk_lt Blx.out
          have KD := Lib.hid (call_done KG.out KR.out zw B8.out (Nat.le_succ _) hbx hk9 hl9 h9)
          have Nls := Lib.hid (heap_below Bls.out h9)
          have Nla := Lib.hid (heap_below Bla.out h9)
          have Nlx := Lib.hid (heap_below Blx.out h9)
          clear hk9 hl9
          have zx := blk_lt Nlx.out
          have xx0 := cellsAt Nlx.out 0
          have xx1 := cellsAt Nlx.out 1
          have xx2 := cellsAt Nlx.out 2
          have xx3 := cellsAt Nlx.out 3
          have fx := frozAt Nlx.out
          simp at xx0 xx1 xx2 xx3
          go_upto_region 20 with fail
          clear zx xx0 xx1 xx2 xx3 fx
          obtain ⟨W10, hW10⟩ : ∃ X, X = ((((w9.setCell ⟨wr.heap.size + 1, 0, none⟩ (.slice B1 m1 d1)).setCell ⟨wr.heap.size + 1, 1, none⟩ (.slice B2 m2 d2)).setCell ⟨wr.heap.size + 1, 2, none⟩ (.int .i64 lx)).setCell ⟨wr.heap.size + 1, 3, none⟩ (.slice B3 m3 d3)) := ⟨_, rfl⟩
          rw [← hW10] at KD ⊢
          have g10 : w9.grownBy W10 (some (wr.heap.size + 1)) := by rw [hW10]; exact set4g _ _ _ _ _ _
          replace Nls := Lib.hid (heap_grown Nls.out g10 (by simp; omega))
          replace Nla := Lib.hid (heap_grown Nla.out g10 (by simp))
          replace Nlx := Lib.hid (show W10.heap[wr.heap.size + 1]? = some (.cells (sV B1 m1 d1 B2 m2 d2 lx B3 m3 d3) 66 (0, 0)) by rw [hW10]; exact set4 Nlx.out _ _ _ _)
          have B10 := Lib.hid (show Below wr.heap.size wr W10 by rw [hW10]; exact bel4 b9 (Nat.le_succ _) _ _ _ _)
          clear hW10 g10 b9 hbx h9
          by_cases h0 : E = 0
          rotate_left
          · have v1 : (E == 0) = false := by simpa using h0
            have v2 : decide (E = 0) = false := by simpa using h0
            have HF := Lib.hid h0
            clear h0
            go_wp2_with fail
            go_meet
            exact ⟨E, K, gs, _, _, _, _, _, _, _, _, _, _, rfl, Nls.out, Nlx.out, KD.out.2.1, BB.out.trans (B10.out.mono BB.out.size), .inl ⟨HF.out, KD.out.1, KP.out⟩⟩
          subst h0
          have za := blk_lt Nla.out
          have xa1 := cellsAt Nla.out 1
          have xa2 := cellsAt Nla.out 2
          have xa3 := cellsAt Nla.out 3
          have xa4 := cellsAt Nla.out 4
          have xa5 := cellsAt Nla.out 5
          have xa6 := cellsAt Nla.out 6
          simp at xa1 xa2 xa3 xa4 xa5 xa6
          go_wp2_with (at_builtin; refine wpList_pushT rfl _ _ 78 rfl (w.heap.size + 1) 82 iG (.agg #[.int .i64 0, .slice none 0 0]) 2 32 Try.underlying78 GI.out GZ0.out GZ1.out GZ2.out rfl (by decide) _ _ _ rfl (KD.out.1.below (bel_alloc (Below.refl _ _) _)).g _ 1 _ [.int .i64 an, .slice Ao k.op.length co] rfl rfl (alloc_news _ _ _ _ rfl) (stage_one _ _ _ _) (by unfold maxLen; have := KL.out.1; have := KL.out.2.1; have := KL.out.2.2.1; have := KLg.out; omega) (by have := KL.out.1; have := KL.out.2.1; have := KL.out.2.2.1; have := KLg.out; omega) (by have := B10.out.size; simp; omega) ?_)
          intro v11 W11 ho11 hg11 hm11
          obtain ⟨gw, ek⟩ := once_stg (vo := v8) HE.out
          rw [HK.out] at ek gw
          have hX : Below W10.heap.size W10 (W10.alloc (.cells #[.int .i64 an, .slice Ao k.op.length co] 82)) := bel_alloc (Below.refl _ _) _
          have NE1 := (own_ne3 KG.out (b := w.heap.size) (.inl (Nat.lt_succ_self _))).2.2
          have NE2 := (own_ne3 KG.out (b := wr.heap.size + 1) (.inr (Nat.le_succ _))).2.2
          have F1 := Lib.hid (heap_grown (heap_below Nls.out hX) hg11 NE1)
          have F2 := Lib.hid (heap_grown (heap_below Nlx.out hX) hg11 NE2)
          have F3 := Lib.hid (bel_grownO ((BB.out.trans (B10.out.mono BB.out.size)).trans (hX.mono (BB.out.trans (B10.out.mono BB.out.size)).size)) hg11 (by have := BB.out.size; have := B10.out.size; have := hX.size; omega) (fun g hg => by have := (KG.out.g.lt g hg).1; omega))
          have F4 := Lib.hid ((KD.out.1.below hX).pushG ho11 hg11 hm11)
          have F5 := Lib.hid ((KD.out.2.1.below hX).pushG hg11 hm11).nilO
          have F6 := Lib.hid (((KD.out.2.2 (by simp)).below hX).pushG hg11 hm11).nilO
          have F7 := Lib.hid gw
          clear ho11 hg11 hm11 hX NE1 NE2 gw
          go_wp2_with fail
          go_meet
          subst ek
          exact ⟨0, _, gs ++ [⟨an, .slice Ao k.op.length co, k.op⟩], _, _, _, _, _, _, _, _, _, _, rfl, F1.out, F2.out, F5.out, F3.out, .inr ⟨rfl, F6.out, F4.out, by have := KP.out; simp only [PS, List.map_append, List.map_cons, List.map_nil] at this ⊢; rw [this], F7.out⟩⟩
        have q1b : (aw == 1) = false := by simpa using q1
        by_cases q2 : aw = 2
        · subst q2
          clear q0 q0b q1 q1b
          have KL := Lib.hid (right_lens KK.out)
          have KLg := Lib.hid (ps_len KP.out)
          have zs := blk_lt Bls.out
          have xs0 := cellsAt Bls.out 0
          have xs1 := cellsAt Bls.out 1
          have xs2 := cellsAt Bls.out 2
          have xs3 := cellsAt Bls.out 3
          have fs := frozAt Bls.out
          have za := blk_lt Bla.out
          have xa1 := cellsAt Bla.out 1
          have xa2 := cellsAt Bla.out 2
          have xa3 := cellsAt Bla.out 3
          have xa4 := cellsAt Bla.out 4
          have xa5 := cellsAt Bla.out 5
          have xa6 := cellsAt Bla.out 6
          have zx := blk_lt Blx.out
          have xx0 := cellsAt Blx.out 0
          have xx1 := cellsAt Blx.out 1
          have xx2 := cellsAt Blx.out 2
          have xx3 := cellsAt Blx.out 3
          have fx := frozAt Blx.out
          simp at xs0 xs1 xs2 xs3 xa1 xa2 xa3 xa4 xa5 xa6 xx0 xx1 xx2 xx3
          go_wp2_with fail
          refine (HC.out _ _ k an HNa.out (KAt.below KR.out.at_ B8.out)).mono ?_
          rintro e w9 ⟨⟨v9, rfl, hk9, hl9⟩, h9⟩
          obtain ⟨E, hE⟩ : ∃ E, comE k an = E := ⟨_, rfl⟩
          obtain ⟨K, hK⟩ : ∃ K, comK k an = K := ⟨_, rfl⟩
          rw [hE, hK] at hl9
          rw [hK] at hk9
          rw [hE]
          have HE := Lib.hid hE
          have HK := Lib.hid hK
          clear hE hK
          obtain ⟨B1, m1, d1, B2, m2, d2, lx, B3, m3, d3, rfl⟩ := k_form3 hk9
          clear zs xs0 xs1 xs2 xs3 fs za xa1 xa2 xa3 xa4 xa5 xa6 zx xx0 xx1 xx2 xx3 fx
          have b9 : Below wr.heap.size wr w9 := bThen B8.out h9
          have hbx : wr.heap.size + 1 < W8.heap.size := blk_lt Blx.out
          have KD := Lib.hid (call_done KG.out KR.out zw B8.out (Nat.le_succ _) hbx hk9 hl9 h9)
          have Nls := Lib.hid (heap_below Bls.out h9)
          have Nla := Lib.hid (heap_below Bla.out h9)
          have Nlx := Lib.hid (heap_below Blx.out h9)
          clear hk9 hl9
          have zx := blk_lt Nlx.out
          have xx0 := cellsAt Nlx.out 0
          have xx1 := cellsAt Nlx.out 1
          have xx2 := cellsAt Nlx.out 2
          have xx3 := cellsAt Nlx.out 3
          have fx := frozAt Nlx.out
          simp at xx0 xx1 xx2 xx3
          go_upto_region 25 with fail
          clear zx xx0 xx1 xx2 xx3 fx
          obtain ⟨W10, hW10⟩ : ∃ X, X = ((((w9.setCell ⟨wr.heap.size + 1, 0, none⟩ (.slice B1 m1 d1)).setCell ⟨wr.heap.size + 1, 1, none⟩ (.slice B2 m2 d2)).setCell ⟨wr.heap.size + 1, 2, none⟩ (.int .i64 lx)).setCell ⟨wr.heap.size + 1, 3, none⟩ (.slice B3 m3 d3)) := ⟨_, rfl⟩
          rw [← hW10] at KD ⊢
          have g10 : w9.grownBy W10 (some (wr.heap.size + 1)) := by rw [hW10]; exact set4g _ _ _ _ _ _
          replace Nls := Lib.hid (heap_grown Nls.out g10 (by simp; omega))
          replace Nla := Lib.hid (heap_grown Nla.out g10 (by simp))
          replace Nlx := Lib.hid (show W10.heap[wr.heap.size + 1]? = some (.cells (sV B1 m1 d1 B2 m2 d2 lx B3 m3 d3) 66 (0, 0)) by rw [hW10]; exact set4 Nlx.out _ _ _ _)
          have B10 := Lib.hid (show Below wr.heap.size wr W10 by rw [hW10]; exact bel4 b9 (Nat.le_succ _) _ _ _ _)
          clear hW10 g10 b9 hbx h9
          by_cases h0 : E = 0
          rotate_left
          · have v1 : (E == 0) = false := by simpa using h0
            have v2 : decide (E = 0) = false := by simpa using h0
            have HF := Lib.hid h0
            clear h0
            go_wp2_with fail
            go_meet
            exact ⟨E, K, gs, _, _, _, _, _, _, _, _, _, _, rfl, Nls.out, Nlx.out, KD.out.2.1, BB.out.trans (B10.out.mono BB.out.size), .inl ⟨HF.out, KD.out.1, KP.out⟩⟩
          subst h0
          obtain ⟨gw, -⟩ := once_com HE.out
          rw [HK.out] at gw
          have F7 := Lib.hid gw
          clear gw
          have NE1 := (own_ne3 KG.out (b := wr.heap.size) (.inr (Nat.le_refl _))).2.1
          have NE2 := (own_ne3 KG.out (b := wr.heap.size + 1) (.inr (Nat.le_succ _))).2.1
          have hst : LpRel w gs (sV A1 n1 c1 A2 n2 c2 l A3 n3 c3) #[.int .i64 2, .int .i64 an, .int .i64 rl, .int .i64 rh, .string rk, .int .i64 rn, .int .i64 rv] (sV B1 m1 d1 B2 m2 d2 lx B3 m3 d3) k K wr.heap.size (wr.heap.size + 1) an (.slice Ao k.op.length co) (.slice Au k.out.length cu) (.slice Ag gs.length cg) W10 :=
            ⟨[], gs, rfl, by simp, by have := KD.out.1; simpa using this, KD.out.2.1, KD.out.2.2 (by simp), Nls.out, Nla.out, Nlx.out, NE1, NE2, BB.out.trans (B10.out.mono BB.out.size)⟩
          have B10s := Lib.hid B10.out.size
          clear NE1 NE2 Nls Nla Nlx KD
          go_wp2_with fail
          go_loopw [5, 6] (fun vu vg W => LpRel w gs (sV A1 n1 c1 A2 n2 c2 l A3 n3 c3) #[.int .i64 2, .int .i64 an, .int .i64 rl, .int .i64 rh, .string rk, .int .i64 rn, .int .i64 rv] (sV B1 m1 d1 B2 m2 d2 lx B3 m3 d3) k K wr.heap.size (wr.heap.size + 1) an (.slice Ao k.op.length co) vu vg W) (fun _ vg _ => lenV vg)
          case atStart => exact hst
          case round =>
            clear hst
            obtain ⟨t, r, hgs, ht, hG, hR, hRK, hs, hac, hxc, hn1, hn2, hbl⟩ := hrel
            obtain ⟨oo, hoo⟩ : ∃ x, x = k.out ++ List.flatMap Stg.l t := ⟨_, rfl⟩
            rw [← hoo] at hG
            have HOO := Lib.hid hoo
            clear hoo
            have HGS := Lib.hid hgs
            have HT := Lib.hid ht
            have IG := Lib.hid hG
            have IR := Lib.hid hR
            have IK := Lib.hid hRK
            have Is := Lib.hid hs
            have Ia := Lib.hid hac
            have Ix := Lib.hid hxc
            have IB := Lib.hid hbl
            obtain ⟨lu, hlu⟩ : ∃ m, m = oo.length := ⟨_, rfl⟩
            obtain ⟨Av, cv, rfl⟩ : ∃ A c, u5 = Value.slice A lu c := by rw [hlu]; exact ownT_slice hG.u
            have HLU := Lib.hid hlu
            clear hlu
            clear hgs ht hR hRK hs hac hxc hbl
            cases r with
            | nil =>
              obtain ⟨Aw, cw, rfl⟩ : ∃ A c, u6 = Value.slice A 0 c := ownT_slice hG.g
              clear hG hn1 hn2
              have CG := Lib.hid (com_ghost HE.out KP.out HGS.out HT.out (by simp))
              rw [HK.out] at CG
              have IGx := Lib.hid (show Gh wr (w.heap.size + 1) (.slice Ao k.op.length co) (.slice Av lu cv) (.slice Aw 0 cw) K.op K.out [] by rw [← CG.out.1, ← CG.out.2.1, ← HOO.out]; exact IG.out)
              go_upto_region 26 with fail
              go_quiet (fail)
              go_wp2_with fail
              go_meet
              exact ⟨0, _, [], _, _, _, _, _, _, _, _, _, _, rfl, heap_below Is.out (bDrewN (Below.refl _ _)), heap_below Ix.out (bDrewN (Below.refl _ _)), IR.out.below (bDrewN (Below.refl _ _)), bDrewN IB.out, .inr ⟨rfl, IK.out.below (bDrewN (Below.refl _ _)), IGx.out.below (bDrewN (Below.refl _ _)), CG.out.2.2, F7.out⟩⟩
            | cons x r =>
              obtain ⟨m4, hm4⟩ : ∃ m, m = r.length + 1 := ⟨_, rfl⟩
              obtain ⟨Aw, cw, rfl⟩ : ∃ A c, u6 = Value.slice A m4 c := by rw [hm4]; exact ownT_slice hG.g
              have hG' : Gh wr (w.heap.size + 1) (.slice Ao k.op.length co) (.slice Av lu cv) (.slice Aw (r.length + 1) cw) k.op oo (x :: r) := by rw [← hm4]; exact hG
              obtain ⟨b4, o4, rfl, -, -⟩ := hG'.drop
              obtain ⟨xn, xr, xl⟩ := x
              have y0 := ownT_cell hG'.g (j := 0) (u := .int .i64 xn) rfl
              have y1 := ownT_cell hG'.g (j := 1) (u := xr) rfl
              have zb := y0.1
              have hcw : r.length + 1 ≤ cw := ownT_cap hG'.g
              have HCW := Lib.hid hcw
              have HM4 := Lib.hid hm4
              have Y0 := Lib.hid y0
              have Y1 := Lib.hid y1
              replace y0 := y0.2
              replace y1 := y1.2
              simp only [Nat.add_zero] at y0
              have hm0 : (0 : Int) < (m4 : Int) := by omega
              have hd0 : decide ((0 : Int) < (m4 : Int)) = true := decide_eq_true hm0
              have hm0n : 0 < m4 := by omega
              have hd0n : decide (0 < m4) = true := decide_eq_true hm0n
              clear hG hG' hcw hm4
              have za := blk_lt Ia.out
              have xa1 := cellsAt Ia.out 1
              simp at xa1
              by_cases hx : xn ≤ an
              rotate_left
              · have hd1 : decide (xn ≤ an) = false := decide_eq_false hx
                have CG := Lib.hid (com_ghost HE.out KP.out HGS.out HT.out (by intro y hy; simp at hy; subst hy; simp only; omega))
                rw [HK.out] at CG
                have IGx := Lib.hid (show Gh wr (w.heap.size + 1) (.slice Ao k.op.length co) (.slice Av lu cv) (.slice (some ⟨b4, o4, none⟩) m4 cw) K.op K.out (⟨xn, xr, xl⟩ :: r) by rw [← CG.out.1, ← CG.out.2.1, ← HOO.out]; exact IG.out)
                clear hx
                go_upto_region 26 with fail
                go_quiet (fail)
                go_wp2_with fail
                go_meet
                exact ⟨0, _, _, _, _, _, _, _, _, _, _, _, _, rfl, heap_below Is.out (bDrewN (Below.refl _ _)), heap_below Ix.out (bDrewN (Below.refl _ _)), IR.out.below (bDrewN (Below.refl _ _)), bDrewN IB.out, .inr ⟨rfl, IK.out.below (bDrewN (Below.refl _ _)), IGx.out.below (bDrewN (Below.refl _ _)), CG.out.2.2, F7.out⟩⟩
              · have hd1 : decide (xn ≤ an) = true := decide_eq_true hx
                have HXN := Lib.hid hx
                clear hx
                go_upto_region 26 with fail
                go_quiet (fail)
                clear za xa1 y0 y1 zb
                obtain ⟨Wd, hWd⟩ : ∃ X, X = wr.drewN nq := ⟨_, rfl⟩
                rw [← hWd]
                have Bd := Lib.hid (show Below wr.heap.size wr Wd by rw [hWd]; exact bDrewN (Below.refl _ _))
                clear hWd
                replace Is := Lib.hid (heap_below Is.out Bd.out)
                replace Ia := Lib.hid (heap_below Ia.out Bd.out)
                replace Ix := Lib.hid (heap_below Ix.out Bd.out)
                replace IG := Lib.hid (IG.out.below Bd.out)
                replace IR := Lib.hid (IR.out.below Bd.out)
                replace IK := Lib.hid (IK.out.below Bd.out)
                replace IB := Lib.hid (bThen IB.out Bd.out)
                have zb : b4 < Wd.heap.size := Nat.lt_of_lt_of_le Y0.out.1 Bd.out.size
                have y1 : Wd.cell? ⟨b4, o4 + 1, none⟩ = some xr := (Bd.out.cell (p := ⟨b4, o4 + 1, none⟩) Y1.out.1).trans Y1.out.2
                have NS := (own_ne3 IG.out (b := w.heap.size) (.inl (Nat.lt_succ_self _))).2.1
                have NA := hn1
                have NX := hn2
                have LA := Lib.hid (blk_lt Ia.out)
                have LX := Lib.hid (blk_lt Ix.out)
                have LB := Lib.hid (show oo.length + xl.length ≤ 20000 by rw [HOO.out]; exact ghost_room HGS.out KP.out KK.out)
                clear hn1 hn2
                have HNE := Lib.hid (show _ ∧ _ ∧ _ from ⟨NS, NA, NX⟩)
                clear NS NA NX
                have OU := Lib.hid (show OwnT Wd (w.heap.size + 1) 41 5 (.slice Av lu cv) lu (oo.flatMap Res.cs) by have := IG.out.u; rw [← HLU.out] at this; exact this)
                go_wp2_with (at_builtin; refine wpList_rowT rfl _ _ 63 rfl (w.heap.size + 1) 41 iR (.agg #[.int .i64 0, .int .i64 0, .string ⟨#[]⟩, .int .i64 0, .int .i64 0]) 5 48 Try.underlying63 HI.out HZ0.out HZ1.out HZ2.out rfl (by decide) _ _ _ rfl OU.out (l := xl) Res.cs_len rfl (IG.out.rows ⟨xn, xr, xl⟩ (by simp)).1 Res.cs_one (by unfold maxLen; have := LB.out; have := HLU.out; omega) (by have := LB.out; have := HLU.out; omega) (by have := IB.out.size; have := blk_lt Is.out; omega) ?_)
                intro v11 W11 ho11 hg11 hm11
                rw [HLU.out] at ho11
                have J1 := Lib.hid (heap_grown Is.out hg11 HNE.out.1)
                have J2 := Lib.hid (heap_grown Ia.out hg11 HNE.out.2.1)
                have J3 := Lib.hid (heap_grown Ix.out hg11 HNE.out.2.2)
                have J4 := Lib.hid (IG.out.pushU ho11 hg11 hm11)
                have J5 := Lib.hid (IR.out.pushU hg11 hm11)
                have J6 := Lib.hid (IK.out.pushU hg11 hm11)
                have J7 := Lib.hid (bel_grownO IB.out hg11 (by have := IB.out.size; omega) (fun g hg => by have := (IG.out.u.lt g hg).1; omega))
                have J8 := Lib.hid (moved_ne hm11 LA.out HNE.out.2.1)
                have J9 := Lib.hid (moved_ne hm11 LX.out HNE.out.2.2)
                clear ho11 hg11 hm11 zb y1
                have J4' : Gh W11 (w.heap.size + 1) (.slice Ao k.op.length co) v11 (.slice (some ⟨b4, o4, none⟩) (r.length + 1) cw) k.op (oo ++ xl) (⟨xn, xr, xl⟩ :: r) := by rw [← HM4.out]; exact J4.out
                obtain ⟨b5, o5, he5, hG5, hm5⟩ := J4'.drop
                injection he5 with he5
                injection he5 with he5 he6
                subst he5 he6
                have hc1 : m4 ≤ cw := by rw [HM4.out]; exact HCW.out
                have hc2 : 1 ≤ m4 := by omega
                have G5 := Lib.hid hG5
                have M5 := Lib.hid hm5
                clear hG5 hm5 J4'
                go_wp2_with fail
                have hmr : m4 - 1 = r.length := by have := HM4.out; omega
                rw [hmr]
                refine ⟨⟨t ++ [⟨xn, xr, xl⟩], r, by rw [HGS.out]; simp, ?_, ?_, ?_, ?_, J1.out, J2.out, J3.out, J8.out, J9.out, J7.out⟩, by simp [lenV]; have := HM4.out; omega⟩
                · intro y hy
                  rcases List.mem_append.1 hy with h | h
                  · exact HT.out y h
                  · simp at h; subst h; exact HXN.out
                · rw [show k.out ++ (t ++ [(⟨xn, xr, xl⟩ : Stg)]).flatMap Stg.l = oo ++ xl by rw [HOO.out]; simp]
                  exact G5.out
                · have h5 := J5.out
                  rw [HM4.out] at h5
                  exact h5.dropG M5.out
                · have h5 := J6.out
                  rw [HM4.out] at h5
                  exact h5.dropG M5.out
        have q2b : (aw == 2) = false := by simpa using q2
        have KL := Lib.hid (right_lens KK.out)
        have KLg := Lib.hid (ps_len KP.out)
        have zs := blk_lt Bls.out
        have xs0 := cellsAt Bls.out 0
        have xs1 := cellsAt Bls.out 1
        have xs2 := cellsAt Bls.out 2
        have xs3 := cellsAt Bls.out 3
        have fs := frozAt Bls.out
        have za := blk_lt Bla.out
        have xa1 := cellsAt Bla.out 1
        have xa2 := cellsAt Bla.out 2
        have xa3 := cellsAt Bla.out 3
        have xa4 := cellsAt Bla.out 4
        have xa5 := cellsAt Bla.out 5
        have xa6 := cellsAt Bla.out 6
        have zx := blk_lt Blx.out
        have xx0 := cellsAt Blx.out 0
        have xx1 := cellsAt Blx.out 1
        have xx2 := cellsAt Blx.out 2
        have xx3 := cellsAt Blx.out 3
        have fx := frozAt Blx.out
        simp at xs0 xs1 xs2 xs3 xa1 xa2 xa3 xa4 xa5 xa6 xx0 xx1 xx2 xx3
        go_wp2_with fail
        refine (HB.out _ _ k (KAt.below KR.out.at_ B8.out)).mono ?_
        rintro e w9 ⟨⟨v9, rfl, hk9, hl9⟩, h9⟩
        obtain ⟨E, hE⟩ : ∃ E, aboE k = E := ⟨_, rfl⟩
        obtain ⟨K, hK⟩ : ∃ K, aboK k = K := ⟨_, rfl⟩
        rw [hE, hK] at hl9
        rw [hK] at hk9
        rw [hE]
        have HE := Lib.hid hE
        have HK := Lib.hid hK
        clear hE hK
        obtain ⟨B1, m1, d1, B2, m2, d2, lx, B3, m3, d3, rfl⟩ := k_form3 hk9
        clear zs xs0 xs1 xs2 xs3 fs za xa1 xa2 xa3 xa4 xa5 xa6 zx xx0 xx1 xx2 xx3 fx
        have b9 : Below wr.heap.size wr w9 := bThen B8.out h9
        have hbx : wr.heap.size + 1 < W8.heap.size := blk_lt Blx.out
        have KD := Lib.hid (call_done KG.out KR.out zw B8.out (Nat.le_succ _) hbx hk9 hl9 h9)
        have Nls := Lib.hid (heap_below Bls.out h9)
        have Nla := Lib.hid (heap_below Bla.out h9)
        have Nlx := Lib.hid (heap_below Blx.out h9)
        clear hk9 hl9
        have zx := blk_lt Nlx.out
        have xx0 := cellsAt Nlx.out 0
        have xx1 := cellsAt Nlx.out 1
        have xx2 := cellsAt Nlx.out 2
        have xx3 := cellsAt Nlx.out 3
        have fx := frozAt Nlx.out
        simp at xx0 xx1 xx2 xx3
        go_upto_region 12 with fail
        clear zx xx0 xx1 xx2 xx3 fx
        obtain ⟨W10, hW10⟩ : ∃ X, X = ((((w9.setCell ⟨wr.heap.size + 1, 0, none⟩ (.slice B1 m1 d1)).setCell ⟨wr.heap.size + 1, 1, none⟩ (.slice B2 m2 d2)).setCell ⟨wr.heap.size + 1, 2, none⟩ (.int .i64 lx)).setCell ⟨wr.heap.size + 1, 3, none⟩ (.slice B3 m3 d3)) := ⟨_, rfl⟩
        rw [← hW10] at KD ⊢
        have g10 : w9.grownBy W10 (some (wr.heap.size + 1)) := by rw [hW10]; exact set4g _ _ _ _ _ _
        replace Nls := Lib.hid (heap_grown Nls.out g10 (by simp; omega))
        replace Nla := Lib.hid (heap_grown Nla.out g10 (by simp))
        replace Nlx := Lib.hid (show W10.heap[wr.heap.size + 1]? = some (.cells (sV B1 m1 d1 B2 m2 d2 lx B3 m3 d3) 66 (0, 0)) by rw [hW10]; exact set4 Nlx.out _ _ _ _)
        have B10 := Lib.hid (show Below wr.heap.size wr W10 by rw [hW10]; exact bel4 b9 (Nat.le_succ _) _ _ _ _)
        clear hW10 g10 b9 hbx h9
        by_cases h0 : E = 0
        rotate_left
        · have v1 : (E == 0) = false := by simpa using h0
          have v2 : decide (E = 0) = false := by simpa using h0
          have HF := Lib.hid h0
          clear h0
          go_wp2_with fail
          go_meet
          exact ⟨E, K, gs, _, _, _, _, _, _, _, _, _, _, rfl, Nls.out, Nlx.out, KD.out.2.1, BB.out.trans (B10.out.mono BB.out.size), .inl ⟨HF.out, KD.out.1, KP.out⟩⟩
        subst h0
        obtain ⟨gw, ek⟩ := once_abo HE.out
        rw [HK.out] at ek gw
        have F7 := Lib.hid gw
        clear gw
        go_wp2_with fail
        go_meet
        subst ek
        exact ⟨0, _, [], _, _, _, _, _, _, _, _, _, _, rfl, Nls.out, Nlx.out, KD.out.2.1.nilO.nilG, BB.out.trans (B10.out.mono BB.out.size), .inr ⟨rfl, (KD.out.2.2 (by simp)).nilO.nilG, KD.out.1.reset, rfl, F7.out⟩⟩
      case rest =>
        clear KR KG KP Bls Bla Blx B8 zw BB
        obtain ⟨E, k', gs', B1, m1, d1, B2, m2, d2, lx, B3, m3, d3, rfl, hs, hx, hR, hbl, hor⟩ := hcut
        have Rs := Lib.hid hs
        have Rx := Lib.hid hx
        have RB := Lib.hid hbl
        obtain ⟨Wm, hWm⟩ : ∃ X, X = wc := ⟨_, rfl⟩
        rw [← hWm] at Rs Rx RB hR hor ⊢
        clear hs hx hbl hWm
        rcases hor with ⟨hE, hG, hps⟩ | ⟨rfl, hRK, hG, hps, gw⟩
        · have v1 : (E == 0) = false := by simpa using hE
          have v2 : decide (E = 0) = false := by simpa using hE
          have RR := Lib.hid hR
          have RG := Lib.hid hG
          have RK := Lib.hid KK.out
          have RPs := Lib.hid hps
          have HF := Lib.hid hE
          clear hR hG hps hE Rx
          have RP := rd_parts RR.out
          have RO := Lib.hid (show RowR Wm u5 k.out from ⟨OwnT.row Res.cs_len RG.out.u rfl, RP.2.2.2.1.2.1, RP.2.2.2.1.2.2⟩)
          have RU := Lib.hid RP.2.2.2.1
          have CL := Lib.hid (fun w' (hb : Below Wm.heap.size Wm w') => (HL.out k.out (.slice A3 n3 c3) u5 w' (RU.out.below hb) (RO.out.below hb)).mono (R' := fun e w'' => e = .returned (.bool true) ∧ Below w'.heap.size w' w'') (by rintro e w'' ⟨rfl, m, rfl⟩; exact ⟨rfl, bDrewN (Below.refl _ _)⟩))
          have CR := Lib.hid (fun w' (hb : Below Wm.heap.size Wm w') => HR.out (.agg (sV A1 n1 c1 A2 n2 c2 l A3 n3 c3)) w' k (RR.out.at_.below hb))
          rw [RK.out] at CR
          clear RP RO RU
          have zs := blk_lt Rs.out
          have xs0 := cellsAt Rs.out 0
          have xs1 := cellsAt Rs.out 1
          have xs2 := cellsAt Rs.out 2
          have xs3 := cellsAt Rs.out 3
          have fs := frozAt Rs.out
          simp at xs0 xs1 xs2 xs3
          go_wp2_with fail
          refine (CL.out _ (Below.refl _ _)).mono ?_
          rintro e wx ⟨rfl, hbx⟩
          clear zs xs0 xs1 xs2 xs3 fs
          have Rt := Lib.hid (heap_below Rs.out hbx)
          have zs := blk_lt Rt.out
          have xs0 := cellsAt Rt.out 0
          have xs1 := cellsAt Rt.out 1
          have xs2 := cellsAt Rt.out 2
          have xs3 := cellsAt Rt.out 3
          have fs := frozAt Rt.out
          simp at xs0 xs1 xs2 xs3
          go_wp2_with fail
          refine (CR.out _ hbx).mono ?_
          rintro e wy ⟨rfl, hby⟩
          have hbc := bThen hbx hby
          clear zs xs0 xs1 xs2 xs3 fs Rt
          go_wp2_with fail
          go_roundw
          case rel => exact ⟨j + 1, by omega, by go_num, k, gs', _, _, _, _, _, _, _, _, _, _, heap_below Rs.out hbc, RR.out.below hbc, RK.out, RG.out.below hbc, RPs.out, bThen RB.out hbc⟩
          case measure => simp [intOf]; omega
        · have RR0 := Lib.hid hR
          have RRK := Lib.hid hRK
          have RG0 := Lib.hid hG
          have RPs := Lib.hid hps
          have GW := Lib.hid gw
          have RK := Lib.hid gw.right
          have RP := rd_parts RR0.out
          have RQ := rd_parts RRK.out
          have hcap : n3 ≤ d3 := by
            have h1 := RP.1
            obtain ⟨⟨_, c', e, hc, -⟩, -⟩ := RQ.2.2.2.1
            injection e with _ _ e
            subst e
            have := gw.len
            omega
          have hl0 : decide (lx < l) = false := decide_eq_false (by rw [RP.2.1, RQ.2.1]; have := gw.last; omega)
          have hl1 : ¬ lx < l := by simpa using hl0
          have hn0 : ¬ m3 < n3 := by rw [RP.1, RQ.1]; have := gw.len; omega
          have hn1 : decide ((m3 : Int) < (n3 : Int)) = false := decide_eq_false (by omega)
          have hn2 : decide (m3 < n3) = false := decide_eq_false hn0
          have hcI : (n3 : Int) ≤ (d3 : Int) := by omega
          have T1 := Lib.hid (show RowR Wm (.slice B3 n3 d3) k.out by have h := row_take RQ.2.2.2.1 (m := n3) (by rw [RP.1]; exact gw.len); rw [RP.1, gw.pre, ← RP.1] at h; exact h)
          have T2 := Lib.hid RP.2.2.2.1
          have CL := Lib.hid (fun w' (hb : Below Wm.heap.size Wm w') => (HL.out k.out (.slice B3 n3 d3) (.slice A3 n3 c3) w' (T1.out.below hb) (T2.out.below hb)).mono (R' := fun e w'' => e = .returned (.bool true) ∧ Below w'.heap.size w' w'') (by rintro e w'' ⟨rfl, m, rfl⟩; exact ⟨rfl, bDrewN (Below.refl _ _)⟩))
          clear RP RQ T1 T2 hR hRK hG hps gw
          have zs := blk_lt Rs.out
          have xs0 := cellsAt Rs.out 0
          have xs1 := cellsAt Rs.out 1
          have xs2 := cellsAt Rs.out 2
          have xs3 := cellsAt Rs.out 3
          have fs := frozAt Rs.out
          simp at xs0 xs1 xs2 xs3
          have zx := blk_lt Rx.out
          have xx0 := cellsAt Rx.out 0
          have xx1 := cellsAt Rx.out 1
          have xx2 := cellsAt Rx.out 2
          have xx3 := cellsAt Rx.out 3
          have fx := frozAt Rx.out
          simp at xx0 xx1 xx2 xx3
          go_upto_region 30 with fail
          go_cut [121] from 96 to 133 (fun v W => v = .bool false ∧ Below Wm.heap.size Wm W)
          case first =>
            have hS : Below Wm.heap.size Wm Wm ∧ Wm.cell? ⟨w.heap.size, 2, none⟩ = some (.int .i64 l) ∧ Wm.cell? ⟨w.heap.size, 3, none⟩ = some (.slice A3 n3 c3) ∧ Wm.cell? ⟨wr.heap.size + 1, 2, none⟩ = some (.int .i64 lx) ∧ Wm.cell? ⟨wr.heap.size + 1, 3, none⟩ = some (.slice B3 m3 d3) := ⟨Below.refl _ _, xs2, xs3, xx2, xx3⟩
            clear RR0 RRK RG0 RPs GW RK Rs Rx xs0 xs1 xx0 xx1
            go_region_held3 (fun w' => Below Wm.heap.size Wm w' ∧ w'.cell? ⟨w.heap.size, 2, none⟩ = some (.int .i64 l) ∧ w'.cell? ⟨w.heap.size, 3, none⟩ = some (.slice A3 n3 c3) ∧ w'.cell? ⟨wr.heap.size + 1, 2, none⟩ = some (.int .i64 lx) ∧ w'.cell? ⟨wr.heap.size + 1, 3, none⟩ = some (.slice B3 m3 d3)) (first | assumption | exact keepP4 (by assumption) | exact keepP4b (by assumption) zs zx (by assumption)) (first | (go_at_call 40; refine (CL.out _ (And.left (by assumption))).mono ?_; rintro e wx ⟨rfl, hbx⟩))
            go_wp2_with fail
            go_meet
            exact ⟨rfl, And.left (by assumption)⟩
          case rest =>
            clear zs xs0 xs1 xs2 xs3 fs zx xx0 xx1 xx2 xx3 fx CL
            obtain ⟨rfl, hbc⟩ := hcut
            obtain ⟨Wn, hWn⟩ : ∃ X, X = wc := ⟨_, rfl⟩
            rw [← hWn] at hbc ⊢
            clear hWn
            replace Rs := Lib.hid (heap_below Rs.out hbc)
            replace Rx := Lib.hid (heap_below Rx.out hbc)
            replace RRK := Lib.hid (RRK.out.below hbc)
            replace RG0 := Lib.hid (RG0.out.below hbc)
            replace RB := Lib.hid (bThen RB.out hbc)
            clear hbc RR0
            have zs := blk_lt Rs.out
            have xs0 := cellsAt Rs.out 0
            have xs1 := cellsAt Rs.out 1
            have xs2 := cellsAt Rs.out 2
            have xs3 := cellsAt Rs.out 3
            have fs := frozAt Rs.out
            simp at xs0 xs1 xs2 xs3
            have zx := blk_lt Rx.out
            have xx0 := cellsAt Rx.out 0
            have xx1 := cellsAt Rx.out 1
            have xx2 := cellsAt Rx.out 2
            have xx3 := cellsAt Rx.out 3
            have fx := frozAt Rx.out
            simp at xx0 xx1 xx2 xx3
            go_upto_region 33 with fail
            clear zs xs0 xs1 xs2 xs3 fs zx xx0 xx1 xx2 xx3 fx
            obtain ⟨Wo, hWo⟩ : ∃ X, X = ((((Wn.setCell ⟨w.heap.size, 0, none⟩ (.slice B1 m1 d1)).setCell ⟨w.heap.size, 1, none⟩ (.slice B2 m2 d2)).setCell ⟨w.heap.size, 2, none⟩ (.int .i64 lx)).setCell ⟨w.heap.size, 3, none⟩ (.slice B3 m3 d3)) := ⟨_, rfl⟩
            rw [← hWo]
            have gO : Wn.grownBy Wo (some w.heap.size) := by rw [hWo]; exact set4g _ _ _ _ _ _
            replace Rs := Lib.hid (show Wo.heap[w.heap.size]? = some (.cells (sV B1 m1 d1 B2 m2 d2 lx B3 m3 d3) 66 (0, 0)) by rw [hWo]; exact set4 Rs.out _ _ _ _)
            have RR := Lib.hid (RRK.out.set RRK.out.s gO)
            have RG := Lib.hid (RG0.out.setL (Nat.lt_succ_self _) gO)
            replace RB := Lib.hid (show Below w.heap.size w Wo by rw [hWo]; exact bel4 RB.out (Nat.le_refl _) _ _ _ _)
            clear hWo gO Rx RRK RG0
            have RP := rd_parts RR.out
            have RO := Lib.hid (show RowR Wo u5 k'.out from ⟨OwnT.row Res.cs_len RG.out.u rfl, RP.2.2.2.1.2.1, RP.2.2.2.1.2.2⟩)
            have RU := Lib.hid RP.2.2.2.1
            have CL := Lib.hid (fun w' (hb : Below Wo.heap.size Wo w') => (HL.out k'.out (.slice B3 m3 d3) u5 w' (RU.out.below hb) (RO.out.below hb)).mono (R' := fun e w'' => e = .returned (.bool true) ∧ Below w'.heap.size w' w'') (by rintro e w'' ⟨rfl, m, rfl⟩; exact ⟨rfl, bDrewN (Below.refl _ _)⟩))
            have CR := Lib.hid (fun w' (hb : Below Wo.heap.size Wo w') => HR.out (.agg (sV B1 m1 d1 B2 m2 d2 lx B3 m3 d3)) w' k' (RR.out.at_.below hb))
            rw [RK.out] at CR
            clear RP RO RU
            have zs := blk_lt Rs.out
            have xs0 := cellsAt Rs.out 0
            have xs1 := cellsAt Rs.out 1
            have xs2 := cellsAt Rs.out 2
            have xs3 := cellsAt Rs.out 3
            have fs := frozAt Rs.out
            simp at xs0 xs1 xs2 xs3
            go_wp2_with fail
            refine (CL.out _ (Below.refl _ _)).mono ?_
            rintro e wx ⟨rfl, hbx⟩
            clear zs xs0 xs1 xs2 xs3 fs
            have Rt := Lib.hid (heap_below Rs.out hbx)
            have zs := blk_lt Rt.out
            have xs0 := cellsAt Rt.out 0
            have xs1 := cellsAt Rt.out 1
            have xs2 := cellsAt Rt.out 2
            have xs3 := cellsAt Rt.out 3
            have fs := frozAt Rt.out
            simp at xs0 xs1 xs2 xs3
            go_wp2_with fail
            refine (CR.out _ hbx).mono ?_
            rintro e wy ⟨rfl, hby⟩
            have hbc := bThen hbx hby
            clear zs xs0 xs1 xs2 xs3 fs Rt
            go_wp2_with fail
            go_roundw
            case rel => exact ⟨j + 1, by omega, by go_num, k', gs', _, _, _, _, _, _, _, _, _, _, heap_below Rs.out hbc, RR.out.below hbc, RK.out, RG.out.below hbc, RPs.out, bThen RB.out hbc⟩
            case measure => simp [intOf]; omega
    · obtain rfl : j = n := by omega
      go_wp2_with fail
      refine (alive_any _).mono ?_
      rintro e w8 ⟨rfl, hb8⟩
      go_wp2_with fail
      go_ret
      exact ⟨rfl, hbb.trans (hb8.mono hbb.size)⟩
end Go.Proofs.Ytenpgkkefielfaa
