/-
  WALKS of the top laws: a group is read back.
-/
import Derived.Test.YtlboehpgpbchhaaGreatGrpW4
set_option linter.unusedVariables false
set_option linter.unusedSimpArgs false
namespace Go.Proofs.YtlboehpgpbchhaaGreat
open Go.RowKit

theorem drop_step {s : ByteArray} {p : Nat} {A rest : List UInt8} (hd : s.data.toList.drop p = A ++ rest) (hp : p ≤ s.size) : s.data.toList.drop (p + A.length) = rest ∧ p + A.length ≤ s.size := by
  have hl : s.data.toList.length = s.size := Array.length_toList
  refine ⟨by rw [← List.drop_drop, hd, List.drop_left' rfl], ?_⟩
  have := congrArg List.length hd
  rw [List.length_drop, List.length_append] at this
  omega
/-- What lies in Get's own cells. -/
structure GlAt (s : ByteArray) (w : World) (no m : Int) (vl : Value) (n : Nat) (xs : List Value) (pb : Nat) (pc : Array Value) (p : Nat) (W : World) : Prop where
  g : GSt s w.heap.size (w.heap.size + 1 + 1) (w.heap.size + 1 + 1 + 1) p W
  b2 : W.heap[w.heap.size + 1]? = some (.cells #[.int .i64 0, .int .i64 0, .slice none 0 0] 56 (0, 0))
  t11 : W.heap[w.heap.size + 4]? = some (.cells #[.int .i64 no, .int .i64 m, vl] 56 (0, 0))
  row : W.ownsRow (w.heap.size + 5) 109 6 vl n xs
  pbx : W.heap[pb]? = some (.cells pc 109 (0, 0))
  low : Below w.heap.size w W
  hp : w.heap.size + 5 ≤ pb ∧ ∀ k, vl.ownBlock = some k → k ≠ pb
theorem GlAt.rd {s : ByteArray} {w : World} {no m : Int} {vl : Value} {n : Nat} {xs : List Value} {pb : Nat} {pc : Array Value} {p p' : Nat} {W W' : World} (h : GlAt s w no m vl n xs pb pc p W)
    (hg : GSt s w.heap.size (w.heap.size + 1 + 1) (w.heap.size + 1 + 1 + 1) p' W') (hf : GFr (w.heap.size + 1 + 1) (w.heap.size + 1 + 1 + 1) W W') : GlAt s w no m vl n xs pb pc p' W' :=
  ⟨hg, by rw [hf.oth _ (by omega) (by omega)]; exact h.b2, by rw [hf.oth _ (by omega) (by omega)]; exact h.t11, own_keep h.row (fun k hk => hf.oth k (by have := (h.row.lt k hk).1; omega) (by have := (h.row.lt k hk).1; omega)), by rw [hf.oth _ (by have := h.hp.1; omega) (by have := h.hp.1; omega)]; exact h.pbx, h.low.trans (hf.low.mono (by omega)), h.hp⟩
theorem GlAt.set {s : ByteArray} {w : World} {no m : Int} {vl : Value} {n : Nat} {xs : List Value} {pb : Nat} {pc : Array Value} {p : Nat} {W : World} (h : GlAt s w no m vl n xs pb pc p W) (j : Nat) (u : Value) :
    GlAt s w no m vl n xs pb (pc.setIfInBounds j u) p (W.setCell ⟨pb, j, none⟩ u) := by
  have hk : ∀ k, k ≠ pb → (W.setCell ⟨pb, j, none⟩ u).heap[k]? = W.heap[k]? := fun k hk => Below.heap_setCell _ _ _ k hk
  have hp := h.hp.1
  refine ⟨⟨by rw [hk _ (by omega)]; exact h.g.s1, by rw [hk _ (by omega)]; exact h.g.s4, by rw [hk _ (by omega)]; exact h.g.s5, h.g.ne⟩, by rw [hk _ (by omega)]; exact h.b2, by rw [hk _ (by omega)]; exact h.t11, own_keep h.row (fun k hk' => hk k (h.hp.2 k hk')), blk_set h.pbx j u, h.low.setCell (p := ⟨pb, j, none⟩) (by simp only; omega) u, h.hp⟩
/-- What group.Get tells of a group's bytes. -/
def GgTo (no m : Int) (l : List Pn) (w : World) (e : Ending) (w' : World) : Prop :=
  ∃ v', e = .returned (.tuple #[.agg #[.int .i64 no, .int .i64 m, v'], .int .i64 0]) ∧ Row Pn.cs 6 w' v' l ∧ Below w.heap.size w w'
def GlRel (s : ByteArray) (w : World) (no m : Int) (l : List Pn) (i : Value) (wr : World) : Prop :=
  ∃ (k p : Nat) (vl : Value), k ≤ l.length ∧ i = .int .i64 k ∧ p ≤ s.size ∧ s.data.toList.drop p = (l.drop k).flatMap pnBs ∧ GSt s w.heap.size (w.heap.size + 1 + 1) (w.heap.size + 1 + 1 + 1) p wr ∧
    wr.heap[w.heap.size + 1]? = some (.cells #[.int .i64 0, .int .i64 0, .slice none 0 0] 56 (0, 0)) ∧ wr.heap[w.heap.size + 4]? = some (.cells #[.int .i64 no, .int .i64 m, vl] 56 (0, 0)) ∧
    wr.ownsRow (w.heap.size + 5) 109 6 vl k ((l.take k).flatMap Pn.cs) ∧ Below w.heap.size w wr
theorem dropAll {s : ByteArray} {no m : Int} {l : List Pn} (hs : s = ⟨(grBs no m l).toArray⟩) : s.data.toList.drop 0 = kNum no ++ (kNum m ++ (kNum (l.length : Int) ++ l.flatMap pnBs)) := by
  subst hs
  simp [grBs]
set_option maxRecDepth 100000 in
set_option maxHeartbeats 4000000 in
theorem gget_any (no m : Int) (l : List Pn) (s : ByteArray) (w : World) (hs : s = ⟨(grBs no m l).toArray⟩) (hgr : grR no m l = true) (hwf : ∀ p ∈ l, p.Wf) :
    Calls Tryz.prog 17 #[.string s] w (GgTo no m l w) := by
  obtain ⟨h1, h2, h3, h4, h5, h6⟩ := gr_pr hgr
  have HPO := Lib.hid (show ∀ p ∈ l, PnOk p from fun p hp => pm_ok (pr_pm h5 p hp) (hwf p hp))
  have hsz : s.size ≤ 1000000000 := by
    rw [hs]
    show (grBs no m l).toArray.size ≤ _
    have a1 := kNums_le (ns := [no, m, (l.length : Int)]) (by simp; omega)
    have a2 := pnBss_le HPO.out
    rw [List.size_toArray]
    unfold grBs
    rw [List.length_append]
    simp only [List.length_cons, List.length_nil] at a1
    omega
  have D0 := Lib.hid (dropAll hs)
  obtain ⟨n, hn⟩ : ∃ n, l.length = n := ⟨_, rfl⟩
  have HN := Lib.hid hn
  rw [hn] at D0 h6
  have HWF := Lib.hid hwf
  have HGR := Lib.hid hgr
  have HS := Lib.hid hs
  have HSZ := Lib.hid hsz
  obtain ⟨i0, hi, hz0, hz1, hz2⟩ := info_parts pninfo
  clear hs hgr hwf hn hsz h5
  go_enter Tryz.func17, Tryz.ntmps17
  -- THE WALK
  go_wp2_with fail
  obtain ⟨W1, hW1⟩ : ∃ X, X = ((((w.alloc (.cells #[.string s] 9)).alloc (.cells #[.int .i64 0, .int .i64 0, .slice none 0 0] 56)).alloc (.cells #[.int .i64 0] 3)).alloc (.cells #[.int .i64 0] 26)) := ⟨_, rfl⟩
  have B1 := Lib.hid (show Below w.heap.size w W1 by rw [hW1]; exact bel_alloc (bel_alloc (bel_alloc (bel_alloc (Below.refl _ _) _) _) _) _)
  have hz1 : W1.heap.size = w.heap.size + 4 := by rw [hW1]; simp
  have G0 := Lib.hid (show GSt s w.heap.size (w.heap.size + 1 + 1) (w.heap.size + 1 + 1 + 1) 0 W1 by rw [hW1]; exact ⟨heap_below (heap_below (heap_below (heap_at w _ _ rfl) (bel_alloc (Below.refl _ _) _)) (bel_alloc (Below.refl _ _) _)) (bel_alloc (Below.refl _ _) _), heap_below (heap_at _ _ _ (by simp)) (bel_alloc (Below.refl _ _) _), heap_at _ _ _ (by simp), by omega, by omega⟩)
  have R1 := Lib.hid (show W1.heap[w.heap.size + 1]? = some (.cells #[.int .i64 0, .int .i64 0, .slice none 0 0] 56 (0, 0)) by rw [hW1]; exact heap_below (heap_below (heap_at _ _ _ (by simp)) (bel_alloc (Below.refl _ _) _)) (bel_alloc (Below.refl _ _) _))
  rw [← hW1]
  clear hW1
  refine (num_any s w.heap.size (w.heap.size + 1 + 1) (w.heap.size + 1 + 1 + 1) 0 no (kNum m ++ (kNum (n : Int) ++ l.flatMap pnBs)) W1 G0.out D0.out (Nat.zero_le _) HSZ.out h1 (by omega)).mono ?_
  rintro e wa0 ⟨rfl, hg, hf⟩
  have G1 := Lib.hid hg
  have F1 := Lib.hid (hf)
  have S1 := Lib.hid (drop_step D0.out (Nat.zero_le _))
  clear hg hf
  have D1 := Lib.hid S1.out.1
  go_wp2_with fail
  refine (num_any s w.heap.size (w.heap.size + 1 + 1) (w.heap.size + 1 + 1 + 1) (0 + (kNum no).length) m (kNum (n : Int) ++ l.flatMap pnBs) wa0 G1.out D1.out S1.out.2 HSZ.out h3 (by omega)).mono ?_
  rintro e wa1 ⟨rfl, hg, hf⟩
  have G2 := Lib.hid hg
  have F2 := Lib.hid (F1.out.trans hf)
  have S2 := Lib.hid (drop_step D1.out S1.out.2)
  clear hg hf
  have D2 := Lib.hid S2.out.1
  go_wp2_with fail
  refine (num_any s w.heap.size (w.heap.size + 1 + 1) (w.heap.size + 1 + 1 + 1) ((0 + (kNum no).length) + (kNum m).length) (n : Int) (l.flatMap pnBs) wa1 G2.out D2.out S2.out.2 HSZ.out (by omega) (by omega)).mono ?_
  rintro e wa2 ⟨rfl, hg, hf⟩
  have G3 := Lib.hid hg
  have F3 := Lib.hid (F2.out.trans hf)
  have S3 := Lib.hid (drop_step D2.out S2.out.2)
  clear hg hf
  have D3 := Lib.hid S3.out.1
  obtain ⟨p0, hp0⟩ : ∃ x, 0 + (kNum no).length + (kNum m).length + (kNum (n : Int)).length = x := ⟨_, rfl⟩
  have DD := Lib.hid (show s.data.toList.drop p0 = l.flatMap pnBs ∧ p0 ≤ s.size by rw [← hp0]; exact ⟨D3.out, S3.out.2⟩)
  have GG := Lib.hid (show GSt s w.heap.size (w.heap.size + 1 + 1) (w.heap.size + 1 + 1 + 1) p0 wa2 by rw [← hp0]; exact G3.out)
  have RR := Lib.hid (show wa2.heap[w.heap.size + 1]? = some (.cells #[.int .i64 0, .int .i64 0, .slice none 0 0] 56 (0, 0)) by rw [F3.out.oth _ (by omega) (by omega)]; exact R1.out)
  have BB := Lib.hid (show Below w.heap.size w wa2 from B1.out.trans (F3.out.low.mono (by omega)))
  have hza : wa2.heap.size = w.heap.size + 4 := by rw [F3.out.size, hz1]
  clear hp0 D0 D1 D2 D3 S1 S2 S3 G0 G1 G2 G3 F1 F2 F3 R1 B1 hz1
  have z5 := blk_lt GG.out.s5
  have c5 := boxCl GG.out.s5
  have hmin : min no 32 = no := by omega
  go_wp2_with fail
  obtain ⟨W2, hW2⟩ : ∃ X, X = wa2.alloc (.cells #[.int .i64 no, .int .i64 m, .slice none 0 0] 56) := ⟨_, rfl⟩
  have T2 := Lib.hid (show W2.heap[w.heap.size + 4]? = some (.cells #[.int .i64 no, .int .i64 m, .slice none 0 0] 56 (0, 0)) by rw [hW2]; exact heap_at _ _ _ hza)
  have B2 := Lib.hid (show Below wa2.heap.size wa2 W2 by rw [hW2]; exact bel_alloc (Below.refl _ _) _)
  try rw [hza]
  rw [← hW2]
  clear hW2 z5 c5
  go_loopw [35] (fun i wr => GlRel s w no m l i wr) (fun i _ => n - (intOf i).toNat)
  case atStart => exact ⟨0, p0, _, Nat.zero_le _, rfl, DD.out.2, by simpa using DD.out.1, ⟨heap_below GG.out.s1 B2.out, heap_below GG.out.s4 B2.out, heap_below GG.out.s5 B2.out, GG.out.ne⟩, heap_below RR.out B2.out, T2.out, World.ownsRow_nil _ _ _ _, bThen BB.out B2.out⟩
  case round =>
    obtain ⟨k, p, vl, hk, rfl, hps, hdr, hg, hb2, ht, how, hlow⟩ := hrel
    rw [HN.out] at hk
    have HPS := Lib.hid hps
    have HDR := Lib.hid hdr
    have KG := Lib.hid hg
    have KB := Lib.hid hb2
    have KT := Lib.hid ht
    have KO := Lib.hid how
    have KL := Lib.hid hlow
    clear hps hdr hg hb2 ht how hlow T2 B2 GG RR BB DD
    by_cases hlt : k < n
    rotate_left
    · obtain rfl : k = n := by omega
      have hpe : p = s.size := by
        have h7 := congrArg List.length HDR.out
        rw [← HN.out, List.drop_length] at h7
        have hl : s.data.toList.length = s.size := Array.length_toList
        rw [List.length_drop, hl] at h7
        simp at h7
        have := HPS.out
        omega
      have hov : wr.ownsRow (w.heap.size + 5) 109 6 vl l.length (l.flatMap Pn.cs) := by
        have := KO.out
        rw [← HN.out, List.take_length] at this
        exact this
      have HOV := Lib.hid hov
      have HRG := Lib.hid (gright_any no m l vl wr (Row.of_own Pn.cs_len hov rfl) (fun q hq => (HWF.out q hq).2.2.1) (by have := HN.out; unfold maxLen; omega))
      rw [HGR.out] at HRG
      obtain ⟨A, c, rfl⟩ := own_slice hov
      have z1 := blk_lt KG.out.s1
      have y1 := boxCl KG.out.s1
      have z4 := blk_lt KG.out.s4
      have y4 := boxCl KG.out.s4
      have zt := blk_lt KT.out
      have t0 := cellsAt KT.out 0
      have t1 := cellsAt KT.out 1
      have t2 := cellsAt KT.out 2
      simp at t0 t1 t2
      have hd : ¬ (p < s.size) := by omega
      have hd2 : ¬ ((p : Int) < (s.size : Int)) := by omega
      clear hov hpe
      go_wp2_with fail
      refine (HRG.out).mono ?_
      rintro e w3 ⟨rfl, hb3⟩
      have KT3 := Lib.hid (heap_below KT.out hb3)
      have KB3 := Lib.hid (heap_below KB.out hb3)
      have KL3 := Lib.hid (bThen KL.out hb3)
      have KO3 := Lib.hid (own_below HOV.out hb3)
      clear hb3 z1 y1 z4 y4 zt t0 t1 t2
      have zt := blk_lt KT3.out
      have t0 := cellsAt KT3.out 0
      have t1 := cellsAt KT3.out 1
      have t2 := cellsAt KT3.out 2
      have zb := blk_lt KB3.out
      have b0 := cellsAt KB3.out 0
      have b1 := cellsAt KB3.out 1
      have b2 := cellsAt KB3.out 2
      have fb := frozAt KB3.out
      simp at t0 t1 t2 b0 b1 b2
      go_wp2_with fail
      obtain ⟨Wf, hWf⟩ : ∃ X, X = ((w3.setCell ⟨w.heap.size + 1, 0, none⟩ (.int .i64 no)).setCell ⟨w.heap.size + 1, 1, none⟩ (.int .i64 m)).setCell ⟨w.heap.size + 1, 2, none⟩ (.slice A l.length c) := ⟨_, rfl⟩
      have hz : Wf.heap[w.heap.size + 1]? = some (.cells #[.int .i64 no, .int .i64 m, .slice A l.length c] 56 (0, 0)) := by rw [hWf]; have := blk_set (blk_set (blk_set KB3.out 0 (.int .i64 no)) 1 (.int .i64 m)) 2 (.slice A l.length c); simpa using this
      have hO : Wf.ownsRow (w.heap.size + 5) 109 6 (.slice A l.length c) l.length (l.flatMap Pn.cs) := by rw [hWf]; exact own_set (own_set (own_set KO3.out (p := ⟨w.heap.size + 1, 0, none⟩) (by simp only; omega) _) (p := ⟨w.heap.size + 1, 1, none⟩) (by simp only; omega) _) (p := ⟨w.heap.size + 1, 2, none⟩) (by simp only; omega) _
      have hL : Below w.heap.size w Wf := by rw [hWf]; exact ((KL3.out.setCell (p := ⟨w.heap.size + 1, 0, none⟩) (by simp only; omega) _).setCell (p := ⟨w.heap.size + 1, 1, none⟩) (by simp only; omega) _).setCell (p := ⟨w.heap.size + 1, 2, none⟩) (by simp only; omega) _
      rw [← hWf]
      clear hWf b0 b1 b2 fb t0 t1 t2
      have y0 := cellsAt hz 0
      have y1 := cellsAt hz 1
      have y2 := cellsAt hz 2
      simp at y0 y1 y2
      refine bodyPost_ret (v := .tuple #[.agg #[.int .i64 no, .int .i64 m, .slice A l.length c], .int .i64 0]) (by simp [results, Tryz.results17, go_sem, y0, y1, y2]) rfl ?_
      exact ⟨_, rfl, Row.of_own Pn.cs_len hO rfl, hL⟩
    obtain ⟨x, hx⟩ : ∃ x, l[k]? = some x := ⟨_, List.getElem?_eq_getElem (by rw [HN.out]; exact hlt)⟩
    have HX := Lib.hid hx
    have HXO := Lib.hid (HPO.out x (List.mem_of_getElem? hx))
    obtain ⟨lo, hi2, ks, pn, pa, pb⟩ := x
    obtain ⟨rest, hrest⟩ : ∃ r, (l.drop (k + 1)).flatMap pnBs = r := ⟨_, rfl⟩
    have HRE := Lib.hid hrest
    have hdx : l.drop k = ⟨lo, hi2, ks, pn, pa, pb⟩ :: l.drop (k + 1) := by
      have hk' : k < l.length := by rw [HN.out]; exact hlt
      rw [List.drop_eq_getElem_cons hk']
      rw [List.getElem?_eq_getElem hk'] at hx
      rw [Option.some.inj hx]
    have DA := Lib.hid (show s.data.toList.drop p = (dig ks.size ++ ks.data.toList) ++ (kNum lo ++ (kNum hi2 ++ (kNum pn ++ (dig (zz pa) ++ (dig (zz pb) ++ rest))))) by
      rw [HDR.out, hdx, List.flatMap_cons, hrest]
      simp [pnBs, pnB1, pnB2, pnB3])
    have hks : ks.size ≤ 4096 := Nat.le_trans HXO.out.1 (by decide)
    have HKS := Lib.hid hks
    have hxr : 0 ≤ lo ∧ lo ≤ 9223372036854775807 ∧ 0 ≤ hi2 ∧ hi2 ≤ 9223372036854775807 ∧ 0 ≤ pn ∧ pn ≤ 9223372036854775807 := by have ⟨_, h2, h3, h4, h5, h6, h7, _⟩ := HXO.out; simp only at h2 h3 h4 h5 h6 h7; omega
    have HXR := Lib.hid hxr
    have hzw : w.heap.size + 5 ≤ wr.heap.size := by have := blk_lt KT.out; omega
    obtain ⟨Al, cl, hal⟩ := own_slice KO.out
    subst hal
    clear hx hdx hrest hks hxr
    go_wp2_with fail
    obtain ⟨W5, hW5⟩ : ∃ X, X = wr.alloc (.cells #[.int .i64 0, .int .i64 0, .string ⟨#[]⟩, .int .i64 0, .int .i64 0, .int .i64 0] 109) := ⟨_, rfl⟩
    have b5 : Below wr.heap.size wr W5 := by rw [hW5]; exact bel_alloc (Below.refl _ _) _
    have E0 := Lib.hid (show GlAt s w no m (.slice Al k cl) k ((l.take k).flatMap Pn.cs) wr.heap.size #[.int .i64 0, .int .i64 0, .string ⟨#[]⟩, .int .i64 0, .int .i64 0, .int .i64 0] p W5 from
      ⟨⟨heap_below KG.out.s1 b5, heap_below KG.out.s4 b5, heap_below KG.out.s5 b5, KG.out.ne⟩, heap_below KB.out b5, heap_below KT.out b5, own_below KO.out b5, by rw [hW5]; exact heap_at _ _ _ rfl, bThen KL.out b5, hzw, fun j hj => by have := (KO.out.lt j hj).2; omega⟩)
    rw [← hW5]
    clear hW5 b5 KG KB KT KO KL
    refine (gtext_any s ks w.heap.size (w.heap.size + 1 + 1) (w.heap.size + 1 + 1 + 1) p (kNum lo ++ (kNum hi2 ++ (kNum pn ++ (dig (zz pa) ++ (dig (zz pb) ++ rest))))) W5 E0.out.g DA.out HPS.out HSZ.out HKS.out).mono ?_
    rintro e wa ⟨rfl, hg, hf⟩
    obtain ⟨p1, hp1⟩ : ∃ x, p + (dig ks.size ++ ks.data.toList).length = x := ⟨_, rfl⟩
    have SA := Lib.hid (drop_step DA.out HPS.out)
    rw [hp1] at hg SA
    have E1 := Lib.hid (E0.out.rd hg hf)
    clear hg hf hp1 E0 DA
    have zp := blk_lt E1.out.pbx
    have fp := frozAt E1.out.pbx
    have q2 := cellsAt E1.out.pbx 2
    simp at q2
    go_wp2_with fail
    have E1s := Lib.hid (E1.out.set 2 (.string ks))
    obtain ⟨W6, hW6⟩ : ∃ X, X = wa.setCell ⟨wr.heap.size, 2, none⟩ (.string ks) := ⟨_, rfl⟩
    rw [← hW6] at E1s ⊢
    clear hW6 E1 zp fp q2
    refine (num_any s w.heap.size (w.heap.size + 1 + 1) (w.heap.size + 1 + 1 + 1) p1 lo (kNum hi2 ++ (kNum pn ++ (dig (zz pa) ++ (dig (zz pb) ++ rest)))) W6 E1s.out.g SA.out.1 SA.out.2 HSZ.out HXR.out.1 HXR.out.2.1).mono ?_
    rintro e wn0 ⟨rfl, hg, hf⟩
    obtain ⟨pn0, hpn⟩ : ∃ x, p1 + (kNum lo).length = x := ⟨_, rfl⟩
    have SN0 := Lib.hid (drop_step SA.out.1 SA.out.2)
    rw [hpn] at hg SN0
    have EN0 := Lib.hid (E1s.out.rd hg hf)
    clear hg hf hpn E1s SA
    go_wp2_with fail
    refine (num_any s w.heap.size (w.heap.size + 1 + 1) (w.heap.size + 1 + 1 + 1) pn0 hi2 (kNum pn ++ (dig (zz pa) ++ (dig (zz pb) ++ rest))) wn0 EN0.out.g SN0.out.1 SN0.out.2 HSZ.out HXR.out.2.2.1 HXR.out.2.2.2.1).mono ?_
    rintro e wn1 ⟨rfl, hg, hf⟩
    obtain ⟨pn1, hpn⟩ : ∃ x, pn0 + (kNum hi2).length = x := ⟨_, rfl⟩
    have SN1 := Lib.hid (drop_step SN0.out.1 SN0.out.2)
    rw [hpn] at hg SN1
    have EN1 := Lib.hid (EN0.out.rd hg hf)
    clear hg hf hpn EN0 SN0
    go_wp2_with fail
    refine (num_any s w.heap.size (w.heap.size + 1 + 1) (w.heap.size + 1 + 1 + 1) pn1 pn (dig (zz pa) ++ (dig (zz pb) ++ rest)) wn1 EN1.out.g SN1.out.1 SN1.out.2 HSZ.out HXR.out.2.2.2.2.1 HXR.out.2.2.2.2.2).mono ?_
    rintro e wn2 ⟨rfl, hg, hf⟩
    obtain ⟨pn2, hpn⟩ : ∃ x, pn1 + (kNum pn).length = x := ⟨_, rfl⟩
    have SN2 := Lib.hid (drop_step SN1.out.1 SN1.out.2)
    rw [hpn] at hg SN2
    have EN2 := Lib.hid (EN1.out.rd hg hf)
    clear hg hf hpn EN1 SN1
    have zp := blk_lt EN2.out.pbx
    have fp := frozAt EN2.out.pbx
    have q0 := cellsAt EN2.out.pbx 0
    have q1 := cellsAt EN2.out.pbx 1
    have q3 := cellsAt EN2.out.pbx 3
    simp at q0 q1 q3
    go_wp2_with fail
    have ES := Lib.hid (((EN2.out.set 0 (.int .i64 lo)).set 1 (.int .i64 hi2)).set 3 (.int .i64 pn))
    obtain ⟨W7, hW7⟩ : ∃ X, X = ((wn2.setCell ⟨wr.heap.size, 0, none⟩ (.int .i64 lo)).setCell ⟨wr.heap.size, 1, none⟩ (.int .i64 hi2)).setCell ⟨wr.heap.size, 3, none⟩ (.int .i64 pn) := ⟨_, rfl⟩
    rw [← hW7] at ES ⊢
    clear hW7 EN2 zp fp q0 q1 q3
    refine (snum_any s w.heap.size (w.heap.size + 1 + 1) (w.heap.size + 1 + 1 + 1) pn2 pa (dig (zz pb) ++ rest) W7 ES.out.g SN2.out.1 SN2.out.2 HSZ.out HXO.out.2.2.2.2.2.2.2.1).mono ?_
    rintro e ws0 ⟨rfl, hg, hf⟩
    obtain ⟨ps0, hpn⟩ : ∃ x, pn2 + (dig (zz pa)).length = x := ⟨_, rfl⟩
    have SS0 := Lib.hid (drop_step SN2.out.1 SN2.out.2)
    rw [hpn] at hg SS0
    have EZ0 := Lib.hid (ES.out.rd hg hf)
    clear hg hf hpn ES SN2
    go_wp2_with fail
    refine (snum_any s w.heap.size (w.heap.size + 1 + 1) (w.heap.size + 1 + 1 + 1) ps0 pb (rest) ws0 EZ0.out.g SS0.out.1 SS0.out.2 HSZ.out HXO.out.2.2.2.2.2.2.2.2).mono ?_
    rintro e ws1 ⟨rfl, hg, hf⟩
    obtain ⟨ps1, hpn⟩ : ∃ x, ps0 + (dig (zz pb)).length = x := ⟨_, rfl⟩
    have SS1 := Lib.hid (drop_step SS0.out.1 SS0.out.2)
    rw [hpn] at hg SS1
    have EZ1 := Lib.hid (EZ0.out.rd hg hf)
    clear hg hf hpn EZ0 SS0
    have zp := blk_lt EZ1.out.pbx
    have fp := frozAt EZ1.out.pbx
    have q4 := cellsAt EZ1.out.pbx 4
    have q5 := cellsAt EZ1.out.pbx 5
    simp at q4 q5
    go_upto_region 16 with fail
    have ET := Lib.hid ((EZ1.out.set 4 (.int .i64 pa)).set 5 (.int .i64 pb))
    obtain ⟨W8, hW8⟩ : ∃ X, X = (ws1.setCell ⟨wr.heap.size, 4, none⟩ (.int .i64 pa)).setCell ⟨wr.heap.size, 5, none⟩ (.int .i64 pb) := ⟨_, rfl⟩
    rw [← hW8] at ET ⊢
    clear hW8 EZ1 zp fp q4 q5
    have PBX := Lib.hid (show W8.heap[wr.heap.size]? = some (.cells #[.int .i64 lo, .int .i64 hi2, .string ks, .int .i64 pn, .int .i64 pa, .int .i64 pb] 109 (0, 0)) by simpa using ET.out.pbx)
    have zp := blk_lt PBX.out
    have q0 := cellsAt PBX.out 0
    have q1 := cellsAt PBX.out 1
    have q2 := cellsAt PBX.out 2
    have q3 := cellsAt PBX.out 3
    have q4 := cellsAt PBX.out 4
    have q5 := cellsAt PBX.out 5
    have z5 := blk_lt ET.out.g.s5
    have y5 := boxCl ET.out.g.s5
    have zt := blk_lt ET.out.t11
    have t2 := cellsAt ET.out.t11 2
    simp at q0 q1 q2 q3 q4 q5 t2
    go_wp2_with (at_builtin; refine wpList_append_own _ rfl _ _ 54 rfl (w.heap.size + 5) 109 i0 (Value.agg #[.int .i64 0, .int .i64 0, .string ⟨#[]⟩, .int .i64 0, .int .i64 0, .int .i64 0]) 6 56 Tryz.underlying54 hi hz0 hz1 hz2 rfl (by decide) _ _ _ rfl (ET.out.row.alloc _) ⟨W8.heap.size, 0, none⟩ 1 1 (Pn.cs ⟨lo, hi2, ks, pn, pa, pb⟩) rfl rfl (rs_news _ _ _ _ rfl) (by simp [Pn.cs, Value.oneCell']) (by unfold maxLen; omega) (by omega) (by have := ET.out.low.size; have := zt; simp; omega) ?_; intro v' w9 hown' hgrow hx9; clear hx9; obtain ⟨A9, c9, rfl⟩ := own_slice hown'; have T9 := heap_grown' (heap_below ET.out.t11 (bel_alloc (Below.refl _ _) _)) hgrow (fun e => by have := (ET.out.row.lt _ e).1; omega); have z9 := blk_lt T9; have t92 := cellsAt T9 2; have f92 := frozAt T9; simp at t92)
    have hk9 : ∀ j o, j < w.heap.size + 4 → W8.heap[j]? = some o → (w9.setCell ⟨w.heap.size + 4, 2, none⟩ (.slice A9 (k + 1) c9)).heap[j]? = some o := fun j o hj ho => by
      have hne : j ≠ (⟨w.heap.size + 4, 2, none⟩ : Addr).block := by simp only; omega
      rw [Below.heap_setCell _ _ _ j hne]
      exact heap_grown' (heap_below ho (bel_alloc (Below.refl _ _) _)) hgrow (fun e => by have := (ET.out.row.lt _ e).1; omega)
    have K9 := Lib.hid hk9
    have T9' := Lib.hid (show (w9.setCell ⟨w.heap.size + 4, 2, none⟩ (.slice A9 (k + 1) c9)).heap[w.heap.size + 4]? = some (.cells #[.int .i64 no, .int .i64 m, .slice A9 (k + 1) c9] 56 (0, 0)) from blk_set T9 2 _)
    have O9 := Lib.hid (own_set hown' (p := ⟨w.heap.size + 4, 2, none⟩) (by simp) (.slice A9 (k + 1) c9))
    have L9 := Lib.hid ((((bel_alloc ET.out.low _).grown hgrow (by have := ET.out.low.size; simp; omega) (fun j hj => by have := (ET.out.row.lt j hj).1; omega))).setCell (p := ⟨w.heap.size + 4, 2, none⟩) (by simp only; omega) (.slice A9 (k + 1) c9))
    clear hk9 T9 z9 t92 f92 hown' hgrow zp q0 q1 q2 q3 q4 q5 z5 y5 zt t2
    go_roundw
    case rel =>
      refine ⟨k + 1, ps1, _, by rw [HN.out]; omega, by go_num, SS1.out.2, by rw [SS1.out.1, HRE.out], ⟨K9.out _ _ (by omega) ET.out.g.s1, K9.out _ _ (by omega) ET.out.g.s4, K9.out _ _ (by omega) ET.out.g.s5, ET.out.g.ne⟩, K9.out _ _ (by omega) ET.out.b2, T9'.out, ?_, L9.out⟩
      have := O9.out
      rw [List.take_add_one, HX.out]
      simpa using this
    case measure => simp [intOf]; omega
end Go.Proofs.YtlboehpgpbchhaaGreat
