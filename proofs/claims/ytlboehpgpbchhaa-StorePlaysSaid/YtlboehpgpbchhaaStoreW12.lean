/-
  WALKS of layer 17: a batch writes a cell.
-/
import Derived.Test.YtlboehpgpbchhaaStoreW11
set_option linter.unusedVariables false
set_option linter.unusedSimpArgs false
namespace Go.Proofs.Ytlboehpgpbchhaa
open Go.RowKit

set_option maxRecDepth 100000 in
set_option maxHeartbeats 4000000 in
theorem bwrite_any (g : Nat) (s : St) (x : Cl) (rest : List Cl) (b0 : Int) (w : World) (h : BoxAt g w s (x :: rest) b0) (hx : x.Ok) :
    Calls Try.prog 42 #[.pointer (some ⟨g, 0, none⟩)] w (BwTo g (writeS s x) rest w) := by
  obtain ⟨A1, n1, c1, A2, n2, c2, A3, n3, c3, hg, hs, hr⟩ := h
  have HC := Lib.hid (fun W (h : StAt W (.agg #[.slice A1 n1 c1, .slice A2 n2 c2, .bool s.d]) s) => write_any s x hx _ W h)
  have HS := Lib.hid hs
  obtain ⟨b, o, c6, e', hc', hb1, hX⟩ := hr.1.at_ (i := 0) (x := x) rfl
  injection e' with e1 e2 e3
  subst e1 e2 e3
  have k0 := hX 0 _ rfl
  have k1 := hX 1 _ rfl
  simp only [Nat.zero_mul, Nat.add_zero] at k0 k1
  clear hX
  have HT := Lib.hid (Row.drop (j := 1) hr.1 (by simp))
  have HRO := Lib.hid hr.2
  have HG := Lib.hid hg
  obtain ⟨R, hR⟩ : ∃ R, writeS s x = R := ⟨_, rfl⟩
  rw [hR] at HC ⊢
  obtain ⟨rs, re⟩ := R
  obtain ⟨m, hm⟩ : ∃ m, rest.length = m := ⟨_, rfl⟩
  have Hm := Lib.hid hm
  have hl : m ≤ 1000000 := by have := hr.2.2; rw [List.length_cons, hm] at this; omega
  simp only [List.length_cons, hm] at hg HG HT hc'
  have hz := blk_lt hg
  have x0 := cellsAt hg 0
  have x1 := cellsAt hg 1
  have x2 := cellsAt hg 2
  have x3 := cellsAt hg 3
  have f0 := frozAt hg
  simp at x0 x1 x2 x3
  clear hg hs hr hR hm
  obtain ⟨xn, xb⟩ := x
  simp only at k0 k1 HC
  simp only [Nat.add_sub_cancel, List.drop_succ_cons, List.drop_zero, Nat.one_mul] at HT
  obtain ⟨AD, hAD⟩ : ∃ AD, (if c3 = 1 then some (⟨b, o, none⟩ : Addr) else some ⟨b, o + 2, none⟩) = AD := ⟨_, rfl⟩
  rw [hAD] at HT
  go_enter Try.func42, Try.ntmps42
  go_upto_region 2 with fail
  obtain ⟨W1, hW1⟩ : ∃ X, X = (w.setCell ⟨g, 3, none⟩ (.slice AD m (c3 - 1))).alloc (.cells #[.string xn, .string xb] 43) := ⟨_, rfl⟩
  rw [← hW1]
  have hns := nostr5 HG.out
  have hgs := blk_set HG.out 3 (.slice AD m (c3 - 1))
  have hss := HS.out.setG hns 3 (.slice AD m (c3 - 1))
  have hrs := HT.out.setG hns 3 (.slice AD m (c3 - 1))
  have hba : Below (w.setCell ⟨g, 3, none⟩ (.slice AD m (c3 - 1))).heap.size (w.setCell ⟨g, 3, none⟩ (.slice AD m (c3 - 1))) W1 := by rw [hW1]; exact bel_alloc (Below.refl _ _) _
  have HG1 := Lib.hid (show W1.heap[g]? = some (.cells #[.slice A1 n1 c1, .slice A2 n2 c2, .bool s.d, .slice AD m (c3 - 1), .int .i64 b0] 82 (0, 0)) by have h := heap_below hgs hba; simpa using h)
  have HCB := Lib.hid (show W1.heap[w.heap.size]? = some (.cells #[.string xn, .string xb] 43 (0, 0)) by rw [hW1]; exact heap_at _ _ _ (by simp [World.setCell]))
  have HS1 := Lib.hid (hss.below hba)
  have HR1 := Lib.hid (show OkRow W1 (.slice AD m (c3 - 1)) rest from ⟨hrs.below hba, fun y hy => HRO.out.1 y (by simp [hy]), by rw [Hm.out]; exact hl⟩)
  have HB1 := Lib.hid (grown_tr (grown_set w ⟨g, 3, none⟩ (.slice AD m (c3 - 1))) (grown_of hba))
  clear hW1 hns hgs hss hrs hba x0 x1 x2 x3 k0 k1 hz f0 HT hAD
  have HC2 := Lib.hid (fun W' (hb : Below W1.heap.size W1 W') => HC.out W' (HS1.out.below hb))
  clear HC
  have zg := blk_lt HG1.out
  have zc := blk_lt HCB.out
  have x0 := cellsAt HG1.out 0
  have x1 := cellsAt HG1.out 1
  have x2 := cellsAt HG1.out 2
  have q0 := cellsAt HCB.out 0
  have q1 := cellsAt HCB.out 1
  simp at x0 x1 x2 q0 q1
  obtain ⟨d, hd⟩ : ∃ d, rs.d = d := ⟨_, rfl⟩
  have HD := Lib.hid hd
  have HC3 : Hid (∀ W', Below W1.heap.size W1 W' → Calls Try.prog 19 #[.agg #[.slice A1 n1 c1, .slice A2 n2 c2, .bool s.d], .string xn, .string xb] W' fun e w' => ∃ A4 n4 c4 A5 n5 c5, e = .returned (.tuple #[.agg #[.slice A4 n4 c4, .slice A5 n5 c5, .bool d], .int .i64 re]) ∧ StAt w' (.agg #[.slice A4 n4 c4, .slice A5 n5 c5, .bool d]) rs ∧ Below W1.heap.size W1 w') := Lib.hid (fun W' hb => by
    refine (HC2.out W' hb).mono ?_
    rintro e w3 ⟨v, rfl, hs3, hb3⟩
    obtain ⟨A4, n4, c4, A5, n5, c5, rfl, -, -⟩ := hs3.form3
    simp only at hs3 ⊢
    rw [hd] at hs3 ⊢
    exact ⟨A4, n4, c4, A5, n5, c5, rfl, hs3, bThen hb hb3⟩)
  clear hd HC2
  go_region_law (go_simp; go_at_call 19; refine (HC3.out _ (by first | exact Below.refl _ _ | exact Below.drew (Below.refl _ _))).mono ?_; rintro e w3 ⟨A4, n4, c4, A5, n5, c5, rfl, hs3, hb3⟩; have HGX := heap_below HG1.out hb3; have y0 := cellsAt HGX 0; have y1 := cellsAt HGX 1; have y2 := cellsAt HGX 2; have y4 := cellsAt HGX 4; have yf := frozAt HGX; have yz := blk_lt HGX; simp at y0 y1 y2 y4)
  all_goals
    have HE1 := Lib.hid (bx_end1 (w := w) (er := re) HGX HD.out hs3 (HR1.out.below hb3) (grown_tr HB1.out (grown_of hb3)))
    have HE2 := Lib.hid (bx_end2 (w := w) (er := re) HGX HD.out hs3 (HR1.out.below hb3) (grown_tr HB1.out (grown_of hb3)))
    clear HGX hs3 hb3
    go_wp2_with fail
    go_end0
    first | (with_reducible exact HE1.out) | (with_reducible exact HE2.out)
end Go.Proofs.Ytlboehpgpbchhaa
