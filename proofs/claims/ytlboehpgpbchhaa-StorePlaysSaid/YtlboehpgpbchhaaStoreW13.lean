/-
  WALKS of layer 17: Batch of the program.
-/
import Derived.Test.YtlboehpgpbchhaaStoreW12
set_option linter.unusedVariables false
set_option linter.unusedSimpArgs false
namespace Go.Proofs.Ytlboehpgpbchhaa
open Go.RowKit

/-- What a batch makes of a store, its cells written one by one, the power going behind so many steps. -/
def goB (s : St) (l : List Cl) (i : Nat) (left : Int) : St × Int :=
  match l with
  | [] => if (i : Int) = left then (⟨s.c, s.f, true⟩, 170) else if (commitS s).2 = 0 then ((commitS s).1, 0) else (zS, (commitS s).2)
  | x :: l => if (i : Int) = left then (⟨s.c, s.f, true⟩, 170) else if (writeS s x).2 = 0 then goB (writeS s x).1 l (i + 1) left else (zS, (writeS s x).2)
def batchS (s : St) (l : List Cl) (left : Int) : St × Int := if (rightB s.c s.f && allC l) = true then (if s.d = true then (zS, 170) else goB s l 0 left) else (zS, 1)
theorem goB_left {s : St} {l : List Cl} {i : Nat} {left : Int} (h : (i : Int) = left) : goB s l i left = (⟨s.c, s.f, true⟩, 170) := by
  cases l <;> (unfold goB; rw [if_pos h])
def BtRel (W5 : World) (l : List Cl) (left : Int) (R : St × Int) (p i : Value) (wr : World) : Prop :=
  ∃ (k : Nat) (s : St) (rest : List Cl), i = .int .i64 k ∧ Below W5.heap.size W5 wr ∧ BoxAt W5.heap.size wr s rest 0 ∧
    ((k ≤ l.length ∧ rest = l.drop k ∧ p = .func (.func 42) #[.pointer (some ⟨W5.heap.size, 0, none⟩)] #[] ∧ goB s rest k left = R) ∨ (k = l.length + 1 ∧ R = (s, 0)))
theorem nostr3 {W : World} {g : Nat} {A1 A2 : Option Addr} {n1 c1 n2 c2 : Nat} {d : Bool} {T : TypeId} (h : W.heap[g]? = some (.cells #[.slice A1 n1 c1, .slice A2 n2 c2, .bool d] T (0, 0))) : NoStr W g := by
  refine ⟨_, T, h, fun j s => ?_⟩
  match j with
  | 0 => simp
  | 1 => simp
  | 2 => simp
  | j + 3 => simp
theorem StAt.set3 {W : World} {v : Value} {s : St} (h : StAt W v s) {g : Nat} (hg : NoStr W g) {A1 A2 : Option Addr} {n1 c1 n2 c2 : Nat} {d : Bool} :
    StAt (((W.setCell ⟨g, 0, none⟩ (.slice A1 n1 c1)).setCell ⟨g, 1, none⟩ (.slice A2 n2 c2)).setCell ⟨g, 2, none⟩ (.bool d)) v s := by
  have x1 := hg.set 0 (u := .slice A1 n1 c1) (by simp)
  have x2 := x1.set 1 (u := .slice A2 n2 c2) (by simp)
  exact ((h.setG hg _ _).setG x1 _ _).setG x2 _ _
theorem bel_grown {w a b : World} {B g : Nat} (h : Below B w a) (k : a.grownBy b (some g)) (hs : B ≤ a.heap.size) (hg : B ≤ g) : Below B w b :=
  h.grown k hs (fun q hq => by injection hq with hq; omega)
set_option maxRecDepth 100000 in
set_option maxHeartbeats 4000000 in
theorem batch_any (s : St) (l : List Cl) (left : Int) (v u : Value) (w : World) (hs : StAt w v s) (hl : OkRow w u l) :
    Calls Try.prog 17 #[v, u, .int .i64 left] w (StTo (batchS s l left) w) := by
  obtain ⟨lc, lf, d⟩ := s
  obtain ⟨A, c, A', c', rfl, hv, hu⟩ := hs.form
  simp only at hv hu
  have HS := Lib.hid hs
  have HV := Lib.hid hv
  have HU := Lib.hid hu
  have HL := Lib.hid hl
  obtain ⟨⟨A3, c3, rfl, -⟩, -, hnl⟩ := hl
  obtain ⟨R, hR⟩ : ∃ R, batchS ⟨lc, lf, d⟩ l left = R := ⟨_, rfl⟩
  rw [hR]
  have HR := Lib.hid hR
  obtain ⟨q, hq⟩ : ∃ q, rightB lc lf = q := ⟨_, rfl⟩
  obtain ⟨bm, hbm⟩ : ∃ q, allC l = q := ⟨_, rfl⟩
  have HD := Lib.hid (fun W h1 h2 => sright_any lc lf d (.slice A lc.length c) (.slice A' lf.length c') W h1 h2 q hq)
  have HP := Lib.hid (fun W (h : OkRow W (.slice A3 l.length c3) l) => cobat_any l _ W h.1 h.2.2 h.2.1 bm hbm)
  have HQ := Lib.hid hq
  have HM := Lib.hid hbm
  obtain ⟨m, hm⟩ : ∃ m, lc.length = m := ⟨_, rfl⟩
  obtain ⟨m2, hm2⟩ : ∃ m, lf.length = m := ⟨_, rfl⟩
  obtain ⟨n, hn⟩ : ∃ m, l.length = m := ⟨_, rfl⟩
  simp only at HS ⊢
  rw [hm, hm2] at HS HD ⊢
  rw [hm] at HV
  rw [hm2] at HU
  rw [hn] at HL HP hnl ⊢
  have Hn := Lib.hid hn
  clear hm hm2 hn hv hu hR hq hbm hs
  unfold StTo
  go_enter Try.func17, Try.ntmps17
  go_wp2_with fail
  obtain ⟨W1, hW2⟩ : ∃ X, X = ((w).alloc (.cells #[.slice A m c, .slice A' m2 c', .bool d] 24)).alloc (.cells #[.slice none 0 0, .slice none 0 0, .bool false] 24) := ⟨_, rfl⟩
  rw [← hW2]
  have hb3 : Below w.heap.size w W1 := by rw [hW2]; exact bel_alloc (bel_alloc (Below.refl _ _) _) _
  have Ns := Lib.hid (show W1.heap[w.heap.size]? = some (.cells #[.slice A m c, .slice A' m2 c', .bool d] 24 (0, 0)) by rw [hW2]; exact heap_below (heap_at (w) _ (w.heap.size) (by simp)) (bel_alloc (Below.refl _ _) _))
  have Nz := Lib.hid (show W1.heap[w.heap.size + 1]? = some (.cells #[.slice none 0 0, .slice none 0 0, .bool false] 24 (0, 0)) by rw [hW2]; exact heap_at ((w).alloc (.cells #[.slice A m c, .slice A' m2 c', .bool d] 24)) _ (w.heap.size + 1) (by simp))
  clear hW2
  have BB4 := Lib.hid hb3
  clear hb3
  have Bls := Ns
  clear Ns
  have Blz := Nz
  clear Nz
  have R1 := Lib.hid (HV.out.below BB4.out)
  have R2 := Lib.hid (HU.out.below BB4.out)
  have R3 := Lib.hid (HL.out.below BB4.out)
  have Kp := Lib.hid (HS.out.below BB4.out)
  refine (HD.out _ R1.out R2.out).mono ?_
  rintro e w5 ⟨rfl, hb6⟩
  have Z := Lib.hid (heap_below Bls.out hb6)
  clear Bls
  have Bls := Z
  clear Z
  have Z := Lib.hid (heap_below Blz.out hb6)
  clear Blz
  have Blz := Z
  clear Z
  have Z := Lib.hid (OkRow.below R1.out hb6)
  clear R1
  have R1 := Z
  clear Z
  have Z := Lib.hid (OkRow.below R2.out hb6)
  clear R2
  have R2 := Z
  clear Z
  have Z := Lib.hid (OkRow.below R3.out hb6)
  clear R3
  have R3 := Z
  clear Z
  have Z := Lib.hid (StAt.below Kp.out hb6)
  clear Kp
  have Kp := Z
  clear Z
  have BB7 := Lib.hid (bThen BB4.out hb6)
  clear hb6
  have zs := blk_lt Bls.out
  have xs0 := cellsAt Bls.out 0
  have xs1 := cellsAt Bls.out 1
  have xs2 := cellsAt Bls.out 2
  have fs := frozAt Bls.out
  simp at xs0 xs1 xs2
  have zz := blk_lt Blz.out
  have xz0 := cellsAt Blz.out 0
  have xz1 := cellsAt Blz.out 1
  have xz2 := cellsAt Blz.out 2
  have fz := frozAt Blz.out
  simp at xz0 xz1 xz2
  cases q with
  | false =>
    have HRR := Lib.hid (show R = (zS, 1) by rw [← HR.out]; unfold batchS; simp only; rw [if_neg (by rw [HQ.out]; simp)])
    go_wp2_with fail
    exact bodyPost_ret (v := .tuple #[.agg #[.slice none 0 0, .slice none 0 0, .bool false], .int .i64 1]) (by simp [results, Try.results17, go_sem, xz0, xz1, xz2]) rfl ⟨_, by rw [HRR.out], by rw [HRR.out]; exact zS_at _, bel3 BB7.out (by omega) _ _ _⟩
  | true =>
    go_wp2_with fail
    refine (HP.out _ R3.out).mono ?_
    rintro e w8 ⟨rfl, hb9⟩
    clear zs fs xs0 xs1 xs2 zz fz xz0 xz1 xz2
    have Z := Lib.hid (heap_below Bls.out hb9)
    clear Bls
    have Bls := Z
    clear Z
    have Z := Lib.hid (heap_below Blz.out hb9)
    clear Blz
    have Blz := Z
    clear Z
    have Z := Lib.hid (OkRow.below R1.out hb9)
    clear R1
    have R1 := Z
    clear Z
    have Z := Lib.hid (OkRow.below R2.out hb9)
    clear R2
    have R2 := Z
    clear Z
    have Z := Lib.hid (OkRow.below R3.out hb9)
    clear R3
    have R3 := Z
    clear Z
    have Z := Lib.hid (StAt.below Kp.out hb9)
    clear Kp
    have Kp := Z
    clear Z
    have BB10 := Lib.hid (bThen BB7.out hb9)
    clear hb9
    have zs := blk_lt Bls.out
    have xs0 := cellsAt Bls.out 0
    have xs1 := cellsAt Bls.out 1
    have xs2 := cellsAt Bls.out 2
    have fs := frozAt Bls.out
    simp at xs0 xs1 xs2
    have zz := blk_lt Blz.out
    have xz0 := cellsAt Blz.out 0
    have xz1 := cellsAt Blz.out 1
    have xz2 := cellsAt Blz.out 2
    have fz := frozAt Blz.out
    simp at xz0 xz1 xz2
    cases bm with
    | false =>
      have HRR := Lib.hid (show R = (zS, 1) by rw [← HR.out]; unfold batchS; simp only; rw [if_neg (by rw [HQ.out, HM.out]; simp)])
      go_wp2_with fail
      exact bodyPost_ret (v := .tuple #[.agg #[.slice none 0 0, .slice none 0 0, .bool false], .int .i64 1]) (by simp [results, Try.results17, go_sem, xz0, xz1, xz2]) rfl ⟨_, by rw [HRR.out], by rw [HRR.out]; exact zS_at _, bel3 BB10.out (by omega) _ _ _⟩
    | true =>
      have HQM := Lib.hid (show (rightB lc lf && allC l) = true by rw [HQ.out, HM.out]; rfl)
      cases d with
      | true =>
        have HRR := Lib.hid (show R = (zS, 170) by rw [← HR.out]; unfold batchS; simp only; rw [if_pos HQM.out, if_pos trivial])
        go_wp2_with fail
        exact bodyPost_ret (v := .tuple #[.agg #[.slice none 0 0, .slice none 0 0, .bool false], .int .i64 170]) (by simp [results, Try.results17, go_sem, xz0, xz1, xz2]) rfl ⟨_, by rw [HRR.out], by rw [HRR.out]; exact zS_at _, bel3 BB10.out (by omega) _ _ _⟩
      | false =>
        have HR2 := Lib.hid (show goB ⟨lc, lf, false⟩ l 0 left = R by rw [← HR.out]; unfold batchS; simp only; rw [if_pos HQM.out, if_neg (by simp)])
        go_upto_region 6 with fail
        have BlzC := Blz
        have BBC := BB10
        obtain ⟨W11, hW12⟩ : ∃ X, X = (w8).alloc (.cells #[.slice A m c, .slice A' m2 c', .bool false, .slice A3 n c3, .int .i64 0] 82) := ⟨_, rfl⟩
        rw [← hW12]
        have hb13 : Below w8.heap.size w8 W11 := by rw [hW12]; exact bel_alloc (Below.refl _ _) _
        have HB56 := Lib.hid hb13
        have Nb := Lib.hid (show W11.heap[w8.heap.size]? = some (.cells #[.slice A m c, .slice A' m2 c', .bool false, .slice A3 n c3, .int .i64 0] 82 (0, 0)) by rw [hW12]; exact heap_at (w8) _ (w8.heap.size) (by simp))
        clear hW12
        have Z := Lib.hid (heap_below Bls.out hb13)
        clear Bls
        have Bls := Z
        clear Z
        have Z := Lib.hid (heap_below Blz.out hb13)
        clear Blz
        have Blz := Z
        clear Z
        have Z := Lib.hid (OkRow.below R1.out hb13)
        clear R1
        have R1 := Z
        clear Z
        have Z := Lib.hid (OkRow.below R2.out hb13)
        clear R2
        have R2 := Z
        clear Z
        have Z := Lib.hid (OkRow.below R3.out hb13)
        clear R3
        have R3 := Z
        clear Z
        have Z := Lib.hid (StAt.below Kp.out hb13)
        clear Kp
        have Kp := Z
        clear Z
        have BB14 := Lib.hid (bThen BB10.out hb13)
        clear hb13
        have Blb := Nb
        clear Nb
        have HBX := Lib.hid (show BoxAt w8.heap.size W11 ⟨lc, lf, false⟩ l 0 from ⟨_, _, _, _, _, _, _, _, _, Blb.out, Kp.out, R3.out⟩)
        clear zs fs xs0 xs1 xs2 zz fz xz0 xz1 xz2
        have hw1 : wrap64 ((n : Int) + 1) = ((n + 1 : Nat) : Int) := by rw [IntWalk.wrap64_in _ (by omega)]; omega
        have hw2 : IntKind.i64.wrap ((n : Int) + 1) = ((n + 1 : Nat) : Int) := by rw [IntKind.wrap_i64]; omega
        have hzw : w.heap.size + 2 ≤ w8.heap.size := by have := blk_lt BlzC.out; omega
        go_wp2_with fail
        go_loopw [9, 31] (fun p i wr => BtRel w8 l left R p i wr) (fun _ i _ => n + 1 - (intOf i).toNat)
        case atStart => exact ⟨0, _, l, rfl, HB56.out, HBX.out, .inl ⟨Nat.zero_le _, rfl, rfl, HR2.out⟩⟩
        case round =>
          clear Bls Blz Blb R1 R2 R3 Kp HBX HB56 HR2 BB14
          obtain ⟨k, s, rest, rfl, hbk, hbx, hor⟩ := hrel
          rw [Hn.out] at hor
          have HBK := Lib.hid hbk
          have HBX := Lib.hid hbx
          have Blz := Lib.hid (heap_below BlzC.out hbk)
          have hbs := hbk.size
          have BB0 := Lib.hid (bThen BBC.out hbk)
          clear hbk hbx
          by_cases hlt : k < n + 1
          · rcases hor with ⟨hk, rfl, rfl, hgo⟩ | ⟨hk, -⟩
            rotate_left
            · omega
            have HGO := Lib.hid hgo
            clear hgo
            have hki : (k : Int) < (n : Int) + 1 := by omega
            have hki2 : (k : Int) < ((n + 1 : Nat) : Int) := by omega
            by_cases hL : (k : Int) = left
            · have HRR := Lib.hid (show R = (⟨s.c, s.f, true⟩, 170) by rw [← HGO.out, goB_left hL])
              have tl : ((k : Int) == left) = true := by simpa using hL
              have tl2 : decide ((k : Int) = left) = true := by simpa using hL
              obtain ⟨A1, n1, c1, A2, n2, c2, A4, n4, c4, hg0, hs0, hr0⟩ := HBX.out
              have HG := Lib.hid hg0
              have HS0 := Lib.hid hs0
              have zb := blk_lt hg0
              have b0 := cellsAt hg0 0
              have b1 := cellsAt hg0 1
              have b2 := cellsAt hg0 2
              have b4 := cellsAt hg0 4
              have fb := frozAt hg0
              simp at b0 b1 b2 b4
              clear hg0 hs0 hr0
              go_upto_region 12 with fail
              clear b0 b1 b2 b4 fb zb
              have HG2 := Lib.hid (show (wr.setCell ⟨w8.heap.size, 2, none⟩ (.bool true)).heap[w8.heap.size]? = some (.cells #[.slice A1 n1 c1, .slice A2 n2 c2, .bool true, .slice A4 n4 c4, .int .i64 0] 82 (0, 0)) by have h := blk_set HG.out 2 (.bool true); simpa using h)
              have HS2 := Lib.hid (show StAt (wr.setCell ⟨w8.heap.size, 2, none⟩ (.bool true)) (.agg #[.slice A1 n1 c1, .slice A2 n2 c2, .bool true]) ⟨s.c, s.f, true⟩ from ⟨_, _, rfl, HS0.out.rows.1.setG (nostr5 HG.out) _ _, HS0.out.rows.2.setG (nostr5 HG.out) _ _⟩)
              have HZ2 := Lib.hid ((Below.heap_setCell wr ⟨w8.heap.size, 2, none⟩ (.bool true) (w.heap.size + 1) (by show w.heap.size + 1 ≠ w8.heap.size; omega)).trans Blz.out)
              have HB2 := Lib.hid (BB0.out.setCell (p := ⟨w8.heap.size, 2, none⟩) (by show w.heap.size ≤ w8.heap.size; omega) (.bool true))
              generalize wr.setCell ⟨w8.heap.size, 2, none⟩ (.bool true) = W7 at *
              have b0 := cellsAt HG2.out 0
              have b1 := cellsAt HG2.out 1
              have b2 := cellsAt HG2.out 2
              simp at b0 b1 b2
              have zb := blk_lt HG2.out
              have xz0 := cellsAt HZ2.out 0
              have xz1 := cellsAt HZ2.out 1
              have xz2 := cellsAt HZ2.out 2
              have fz := frozAt HZ2.out
              have zz := blk_lt HZ2.out
              simp at xz0 xz1 xz2
              go_wp2_with fail
              have Ez := set3 HZ2.out (.slice A1 n1 c1) (.slice A2 n2 c2) (.bool true)
              have e0 := cellsAt Ez 0
              have e1 := cellsAt Ez 1
              have e2 := cellsAt Ez 2
              simp at e0 e1 e2
              exact bodyPost_ret (v := .tuple #[.agg #[.slice A1 n1 c1, .slice A2 n2 c2, .bool true], .int .i64 170]) (by simp [results, Try.results17, go_sem, e0, e1, e2]) rfl ⟨_, by rw [HRR.out], by rw [HRR.out]; exact HS2.out.set3 (nostr3 HZ2.out), bel3 HB2.out (by omega) _ _ _⟩
            · have tl : ((k : Int) == left) = false := by simpa using hL
              have tl2 : decide ((k : Int) = left) = false := by simpa using hL
              by_cases hkn : k < n
              · obtain ⟨x, hx⟩ : ∃ x, l[k]? = some x := ⟨_, List.getElem?_eq_getElem (by rw [Hn.out]; exact hkn)⟩
                have hdr : l.drop k = x :: l.drop (k + 1) := by obtain ⟨h1, h2⟩ := List.getElem?_eq_some_iff.1 hx; rw [drop_at h1, h2]
                rw [hdr] at HBX HGO
                have hxo := HL.out.2.1 x (List.mem_of_getElem? hx)
                clear hx hdr
                have tn : ((k : Int) == (n : Int)) = false := by simp; omega
                have tn2 : decide ((k : Int) = (n : Int)) = false := by simp; omega
                have tn3 : decide (k = n) = false := by simp; omega
                have tn4 : (k == n) = false := by simp; omega
                have HNX := Lib.hid (show (if (writeS s x).2 = 0 then goB (writeS s x).1 (l.drop (k + 1)) (k + 1) left else (zS, (writeS s x).2)) = R by rw [← HGO.out]; conv => rhs; unfold goB; simp only; rw [if_neg hL])
                have HCW := Lib.hid (bwrite_any w8.heap.size s x _ 0 wr HBX.out hxo)
                obtain ⟨r, hr⟩ : ∃ r, writeS s x = r := ⟨_, rfl⟩
                rw [hr] at HNX HCW
                clear hr HGO
                go_wp2_with fail
                refine (HCW.out).mono ?_
                rintro e w2 ⟨rfl, hbx2, hgr⟩
                obtain ⟨rs, re⟩ := r
                simp only at hbx2
                have HB2 := Lib.hid (bel_grown HBK.out hgr hbs (Nat.le_refl _))
                have HZ2 := Lib.hid ((hgr.block (w.heap.size + 1) (blk_lt Blz.out) (by intro e; injection e with e; omega)).trans Blz.out)
                have BB2 := Lib.hid (bThen BBC.out HB2.out)
                have HX2 := Lib.hid hbx2
                clear hbx2 hgr HBX Blz
                obtain ⟨A1, n1, c1, A2, n2, c2, A4, n4, c4, hg0, hs0, hr0⟩ := HX2.out
                have b4 := cellsAt hg0 4
                have zb := blk_lt hg0
                simp at b4
                have HG := Lib.hid hg0
                have HSS := Lib.hid hs0
                clear hg0 hs0 hr0
                by_cases hre : re = 0
                · subst hre
                  go_wp2_with fail
                  go_roundw
                  case rel => exact ⟨k + 1, rs, l.drop (k + 1), by go_num, HB2.out, HX2.out, .inl ⟨by rw [Hn.out]; omega, rfl, rfl, by have h := HNX.out; rw [if_pos trivial] at h; exact h⟩⟩
                  case measure => first | (simp [intOf]; done) | (simp [intOf]; omega)
                · have t4 : (re != 0) = true := by simpa using hre
                  have HRR := Lib.hid (show R = (zS, re) by rw [← HNX.out, if_neg (by simpa using hre)])
                  clear hre
                  go_upto_region 17 with fail
                  have xz0 := cellsAt HZ2.out 0
                  have xz1 := cellsAt HZ2.out 1
                  have xz2 := cellsAt HZ2.out 2
                  have fz := frozAt HZ2.out
                  have zz := blk_lt HZ2.out
                  simp at xz0 xz1 xz2
                  go_region
                  all_goals
                    go_wp2_with fail
                    exact bodyPost_ret (v := .tuple #[.agg #[.slice none 0 0, .slice none 0 0, .bool false], .int .i64 re]) (by simp [results, Try.results17, go_sem, xz0, xz1, xz2]) rfl ⟨_, by rw [HRR.out], by rw [HRR.out]; exact zS_at _, by first | exact bel3 BB2.out (by omega) _ _ _ | exact Below.drew (bel3 BB2.out (by omega) _ _ _) | exact bel3 (Below.drew BB2.out) (by omega) _ _ _⟩
              · obtain rfl : k = n := by omega
                have hdr : l.drop k = [] := List.drop_eq_nil_of_le (by rw [Hn.out]; exact Nat.le_refl _)
                rw [hdr] at HBX HGO
                clear hdr
                have HNX := Lib.hid (show (if (commitS s).2 = 0 then ((commitS s).1, 0) else (zS, (commitS s).2)) = R by rw [← HGO.out]; conv => rhs; unfold goB; simp only; rw [if_neg hL])
                have HCW := Lib.hid (bcommit_any w8.heap.size s [] 0 wr HBX.out)
                obtain ⟨r, hr⟩ : ∃ r, commitS s = r := ⟨_, rfl⟩
                rw [hr] at HNX HCW
                clear hr HGO
                go_wp2_with fail
                refine (HCW.out).mono ?_
                rintro e w2 ⟨rfl, hbx2, hgr⟩
                obtain ⟨rs, re⟩ := r
                simp only at hbx2
                have HB2 := Lib.hid (bel_grown HBK.out hgr hbs (Nat.le_refl _))
                have HZ2 := Lib.hid ((hgr.block (w.heap.size + 1) (blk_lt Blz.out) (by intro e; injection e with e; omega)).trans Blz.out)
                have BB2 := Lib.hid (bThen BBC.out HB2.out)
                have HX2 := Lib.hid hbx2
                clear hbx2 hgr HBX Blz
                obtain ⟨A1, n1, c1, A2, n2, c2, A4, n4, c4, hg0, hs0, hr0⟩ := HX2.out
                have b4 := cellsAt hg0 4
                have zb := blk_lt hg0
                simp at b4
                have HG := Lib.hid hg0
                have HSS := Lib.hid hs0
                clear hg0 hs0 hr0
                by_cases hre : re = 0
                · subst hre
                  go_wp2_with fail
                  go_roundw
                  case rel => exact ⟨k + 1, rs, [], by go_num, HB2.out, HX2.out, .inr ⟨by rw [Hn.out], by have h := HNX.out; rw [if_pos trivial] at h; exact h.symm⟩⟩
                  case measure => first | (simp [intOf]; done) | (simp [intOf]; omega)
                · have t4 : (re != 0) = true := by simpa using hre
                  have HRR := Lib.hid (show R = (zS, re) by rw [← HNX.out, if_neg (by simpa using hre)])
                  clear hre
                  go_upto_region 17 with fail
                  have xz0 := cellsAt HZ2.out 0
                  have xz1 := cellsAt HZ2.out 1
                  have xz2 := cellsAt HZ2.out 2
                  have fz := frozAt HZ2.out
                  have zz := blk_lt HZ2.out
                  simp at xz0 xz1 xz2
                  go_region
                  all_goals
                    go_wp2_with fail
                    exact bodyPost_ret (v := .tuple #[.agg #[.slice none 0 0, .slice none 0 0, .bool false], .int .i64 re]) (by simp [results, Try.results17, go_sem, xz0, xz1, xz2]) rfl ⟨_, by rw [HRR.out], by rw [HRR.out]; exact zS_at _, by first | exact bel3 BB2.out (by omega) _ _ _ | exact Below.drew (bel3 BB2.out (by omega) _ _ _) | exact bel3 (Below.drew BB2.out) (by omega) _ _ _⟩
          · rcases hor with ⟨hk, -⟩ | ⟨hk, hrr⟩
            · omega
            have HRR := Lib.hid hrr
            clear hrr
            subst hk
            obtain ⟨lc2, lf2, d2⟩ := s
            obtain ⟨A1, n1, c1, A2, n2, c2, A4, n4, c4, hg0, hs0, hr0⟩ := HBX.out
            simp only at hg0 hs0
            have HG := Lib.hid hg0
            have HS0 := Lib.hid hs0
            have zb := blk_lt hg0
            have b0 := cellsAt hg0 0
            have b1 := cellsAt hg0 1
            have b2 := cellsAt hg0 2
            simp at b0 b1 b2
            clear hg0 hs0 hr0
            have zz := blk_lt Blz.out
            have xz0 := cellsAt Blz.out 0
            have xz1 := cellsAt Blz.out 1
            have xz2 := cellsAt Blz.out 2
            have fz := frozAt Blz.out
            simp at xz0 xz1 xz2
            go_wp2_with fail
            have Ez := set3 Blz.out (.slice A1 n1 c1) (.slice A2 n2 c2) (.bool d2)
            have e0 := cellsAt Ez 0
            have e1 := cellsAt Ez 1
            have e2 := cellsAt Ez 2
            simp at e0 e1 e2
            exact bodyPost_ret (v := .tuple #[.agg #[.slice A1 n1 c1, .slice A2 n2 c2, .bool d2], .int .i64 0]) (by simp [results, Try.results17, go_sem, e0, e1, e2]) rfl ⟨_, by rw [HRR.out], by rw [HRR.out]; exact HS0.out.set3 (nostr3 Blz.out), bel3 BB0.out (by omega) _ _ _⟩
end Go.Proofs.Ytlboehpgpbchhaa
