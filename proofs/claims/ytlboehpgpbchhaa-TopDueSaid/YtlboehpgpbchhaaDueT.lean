/-
  WALKS of the law TopDue: the law.
-/
import Derived.Test.YtlboehpgpbchhaaDueP2
import Derived.Test.YtlboehpgpbchhaaTopW23
import Derived.Test.YtlboehpgpbchhaaPakArgs
import Derived.Test.YtlboehpgpbchhaaSavArgs
import Derived.Deep.RegionLaw
import Derived.BigQuiet
import Derived.Maps.RangeRun
set_option linter.unusedVariables false
set_option linter.unusedSimpArgs false
namespace Go.Proofs.Ytlboehpgpbchhaa
open Go.RowKit
open Go.ChangeMaps (setBlock)

/-- What lies in the law's own two blocks. -/
structure TdAt (W : World) (jcs : Array Value) (no m : Int) (v : Value) (X : World) : Prop where
  jb : X.heap[W.heap.size]? = some (.cells jcs 46 (0, 0))
  gb : X.heap[W.heap.size + 1]? = some (.cells #[.int .i64 no, .int .i64 m, v] 49 (0, 0))
  bel : Below W.heap.size W X
theorem TdAt.low {W X X' : World} {jcs : Array Value} {no m : Int} {v : Value} (h : TdAt W jcs no m v X) (k : Below (W.heap.size + 2) X X') : TdAt W jcs no m v X' :=
  ⟨(k.block _ (by omega)).trans h.jb, (k.block _ (by omega)).trans h.gb, h.bel.trans (k.mono (by omega))⟩
theorem TdAt.lt {W X : World} {jcs : Array Value} {no m : Int} {v : Value} (h : TdAt W jcs no m v X) : W.heap.size + 2 ≤ X.heap.size := by have := blk_lt h.gb; omega
theorem TdAt.below {W X X' : World} {jcs : Array Value} {no m : Int} {v : Value} (h : TdAt W jcs no m v X) (k : Below X.heap.size X X') : TdAt W jcs no m v X' := h.low (k.mono h.lt)
def PshRel (l : List Pn) (W0 : World) (i : Value) (wr : World) : Prop :=
  ∃ (k : Nat) (lt : List Tm), k ≤ l.length ∧ i = .int .i64 k ∧ lt.Perm ((l.take k).map tmOf) ∧ HpOk W0.heap.size lt wr ∧ Below W0.heap.size W0 wr
def MpRel (out ts : List Tm) (kk : Nat) (w0 : World) (i : Value) (wr : World) : Prop :=
  ∃ (k : Nat) (f : Tm → Int), k ≤ kk ∧ i = .int .i64 k ∧ CM wr w0.heap.size f ∧ (∀ x, f x = cntF out ts k x) ∧ Below w0.heap.size w0 wr
theorem cm_made (W : World) : CM (W.alloc (.map #[] 0)) W.heap.size (fun _ => 0) :=
  ⟨#[], 0, heap_alloc_new _ _, ⟨by simp, by simp, by simp⟩, by simp, fun _ _ => rfl⟩
/-- The iterator over a map that is not written. -/
def RgRel (M ck : Nat) (es : Array MapEntry) (w0 wr : World) : Prop :=
  ∃ (seen : Array Nat) (c0 : Nat), wr.heap[w0.heap.size]? = some (.mapIter (some M) ck seen c0) ∧ ck ≤ c0 ∧ wr.heap[M]? = some (.map es ck) ∧ Below w0.heap.size w0 wr
theorem iterSeen_at {w : World} {r : Nat} {m : Option Nat} {s c : Nat} {seen : Array Nat} (h : w.heap[r]? = some (.mapIter m s seen c)) : w.iterSeen r = seen := by
  unfold World.iterSeen
  rw [h]
set_option maxRecDepth 100000 in
set_option maxHeartbeats 8000000 in
theorem due_walk (W : World) (j : Jb) (v : Value) (no m mark : Int) (l : List Pn) (hj : JIn j) (hg : GIn W v no m l) :
    Calls Try.prog 9 #[.agg j.cs, v, .int .i64 mark] W fun e W' => e = .returned (.bool true) ∧ Below W.heap.size W W' := by
  obtain ⟨⟨vl, rfl, hr⟩, hwf, hlm⟩ := hg
  have HR := Lib.hid hr
  have HWF := Lib.hid hwf
  have HG := Lib.hid (fun w h => gright_any no m l vl w h (fun p hp => (hwf p hp).2.2.1) hlm)
  have HJ := Lib.hid (fun w => gjob_any j w)
  obtain ⟨q1, hq1⟩ : ∃ q, grR no m l = q := ⟨_, rfl⟩
  obtain ⟨q2, hq2⟩ : ∃ q, (wR j.s j.d && fR j.f) = q := ⟨_, rfl⟩
  have HQ1 := Lib.hid hq1
  have HQ2 := Lib.hid hq2
  rw [hq1] at HG
  rw [hq2] at HJ
  obtain ⟨A, c, rfl, hc, -⟩ := hr
  obtain ⟨n, hn⟩ : ∃ n, l.length = n := ⟨_, rfl⟩
  have HN := Lib.hid hn
  rw [hn] at HR HG ⊢
  have HJN := Lib.hid hj
  clear hn hc hwf hlm hq1 hq2 hj
  have HJD := Lib.hid (show ∃ j', j' = j from ⟨_, rfl⟩)
  obtain ⟨jcs, hjc⟩ : ∃ x, j.cs = x := ⟨_, rfl⟩
  have HJC := Lib.hid hjc
  obtain ⟨jg, js, jd, jf, ju, jl, jy, ji⟩ := j
  unfold Jb.cs at HJ ⊢
  simp only at HJ ⊢
  clear hjc HJD
  go_enter Try.func9, Try.ntmps9
  go_upto_region 1 with fail
  obtain ⟨W2, hW2⟩ : ∃ X, X = ((W.alloc (.cells #[.int .i64 jg, .int .i64 js, .int .i64 jd, .int .i64 jf, .int .i64 ju, .int .i64 jl, .int .i64 jy, .int .i64 ji] 46)).alloc (.cells #[.int .i64 no, .int .i64 m, .slice A n c] 49)) := ⟨_, rfl⟩
  rw [← hW2]
  have T2 := Lib.hid (show TdAt W #[.int .i64 jg, .int .i64 js, .int .i64 jd, .int .i64 jf, .int .i64 ju, .int .i64 jl, .int .i64 jy, .int .i64 ji] no m (.slice A n c) W2 by
    rw [hW2]
    exact ⟨heap_below (heap_at W _ _ rfl) (bel_alloc (Below.refl _ _) _), heap_at _ _ _ (by simp), bel_alloc (bel_alloc (Below.refl _ _) _) _⟩)
  clear hW2
  have z1 := blk_lt T2.out.gb
  have y0 := cellsAt T2.out.gb 0
  have y1 := cellsAt T2.out.gb 1
  have y2 := cellsAt T2.out.gb 2
  simp at y0 y1 y2
  by_cases h60 : n ≤ 60
  rotate_left
  · have d1 : decide ((60 : Int) < (n : Int)) = true := decide_eq_true (by omega)
    go_wp2_with (go_at_call 28; refine (alive_any _).mono ?_; rintro e w5 ⟨rfl, hb5⟩)
    go_ret
    exact ⟨rfl, bThen T2.out.bel hb5⟩
  have d1 : decide ((60 : Int) < (n : Int)) = false := decide_eq_false (by omega)
  go_wp2_with fail
  refine (HG.out _ (HR.out.below T2.out.bel)).mono ?_
  rintro e w3 ⟨rfl, hb3⟩
  have T3 := Lib.hid (T2.out.below hb3)
  clear hb3 T2 z1 y0 y1 y2
  cases q1 with
  | false =>
    go_wp2_with (go_at_call 28; refine (alive_any _).mono ?_; rintro e w5 ⟨rfl, hb5⟩)
    go_ret
    exact ⟨rfl, bThen T3.out.bel hb5⟩
  | true =>
  have z0 := blk_lt T3.out.jb
  have x0 := cellsAt T3.out.jb 0
  have x1 := cellsAt T3.out.jb 1
  have x2 := cellsAt T3.out.jb 2
  have x3 := cellsAt T3.out.jb 3
  have x4 := cellsAt T3.out.jb 4
  have x5 := cellsAt T3.out.jb 5
  have x6 := cellsAt T3.out.jb 6
  have x7 := cellsAt T3.out.jb 7
  simp at x0 x1 x2 x3 x4 x5 x6 x7
  go_wp2_with fail
  refine (HJ.out _).mono ?_
  rintro e w4 ⟨rfl, hb4⟩
  have T4 := Lib.hid (T3.out.below hb4)
  clear hb4 T3 z0 x0 x1 x2 x3 x4 x5 x6 x7
  cases q2 with
  | false =>
    go_wp2_with (go_at_call 28; refine (alive_any _).mono ?_; rintro e w5 ⟨rfl, hb5⟩)
    go_ret
    exact ⟨rfl, bThen T4.out.bel hb5⟩
  | true =>
  go_wp2_with (go_at_call 28; refine (alive_any _).mono ?_; rintro e w5 ⟨rfl, hb5⟩)
  have T5 := Lib.hid (T4.out.below hb5)
  clear hb5 T4
  refine (tnew_any _).mono ?_
  rintro e w6 ⟨rfl, hok6, hb6⟩
  have HOK6 := Lib.hid hok6
  have T6 := Lib.hid (T5.out.below hb6)
  have B6 := Lib.hid hb6
  have hl5 := T5.out.lt
  have R6 := Lib.hid (HR.out.below T6.out.bel)
  clear hok6 hb6
  have z1 := blk_lt T6.out.gb
  have y2 := cellsAt T6.out.gb 2
  simp at y2
  go_wp2_with fail
  clear z1 y2
  go_loopw [44] (fun i wr => PshRel l w5 i wr) (fun i _ => n - (intOf i).toNat)
  case atStart => exact ⟨0, [], Nat.zero_le _, rfl, List.Perm.refl _, HOK6.out, B6.out⟩
  case round =>
    obtain ⟨k, lt, hk, rfl, hper, hok, hbel⟩ := hrel
    rw [HN.out] at hk
    have HOK := Lib.hid hok
    have HPR := Lib.hid hper
    have HBL := Lib.hid hbel
    have TT := Lib.hid (T5.out.below hbel)
    clear hok hper hbel
    by_cases hlt : k < n
    · obtain ⟨x, hi⟩ : ∃ x, l[k]? = some x := ⟨_, List.getElem?_eq_getElem (by rw [HN.out]; exact hlt)⟩
      have hrow := HR.out.below TT.out.bel
      obtain ⟨b, o, c', hv', -, hb, hX⟩ := hrow.at_ hi
      rw [HN.out] at hv'
      injection hv' with e1 e2 e3
      subst e1 e3
      have c0 := hX 0 _ rfl
      have c1 := hX 1 _ rfl
      have c2 := hX 2 _ rfl
      have c3 := hX 3 _ rfl
      have c4 := hX 4 _ rfl
      have c5 := hX 5 _ rfl
      simp only [Nat.add_zero] at c0 c1 c2 c3 c4 c5
      have hltl : lt.length = k := by rw [HPR.out.length_eq, List.length_map, List.length_take, HN.out]; omega
      have HPU := Lib.hid (fun W h => tpush_any w5.heap.size lt (tmOf x) W h (by omega))
      have HI := Lib.hid hi
      obtain ⟨lo, hi5, ks, pn, pa, pb⟩ := x
      unfold tmOf Tm.val at HPU
      simp only at HPU c0 c1 c2 c3 c4 c5
      clear hX hrow hi e2 hltl
      go_wp2_with fail
      refine (HPU.out _ (HOK.out.below (bel_alloc (Below.refl _ _) _))).mono ?_
      rintro e w8 ⟨rfl, ⟨l8, hper8, hok8⟩, hb8⟩
      have HP8 := Lib.hid hper8
      have HO8 := Lib.hid hok8
      have HB8 := Lib.hid ((bel_alloc HBL.out (.cells #[.int .i64 lo, .int .i64 hi5, .string ks, .int .i64 pn, .int .i64 pa, .int .i64 pb] 59)).trans hb8)
      clear hper8 hok8 hb8 c0 c1 c2 c3 c4 c5
      go_wp2_with fail
      go_roundw
      case rel =>
        refine ⟨k + 1, l8, by rw [HN.out]; omega, by go_num, ?_, HO8.out, HB8.out⟩
        rw [List.take_add_one, HI.out, List.map_append]
        exact HP8.out.trans (HPR.out.append_right _)
      case measure => simp [intOf]; omega
    · obtain rfl : k = n := by omega
      have HL1 := Lib.hid (show l.take k = l by rw [← HN.out]; exact List.take_length)
      have hper2 := HPR.out
      rw [HL1.out] at hper2
      have HPR2 := Lib.hid hper2
      have hgp := gr_prD HQ1.out
      have HPB := Lib.hid hgp.2.2.2.2.1
      have hm0 := hgp.2.2.1
      have hm1 := hgp.2.2.2.1
      obtain ⟨mx, hmx⟩ : ∃ x, max mark (m + 1) = x := ⟨_, rfl⟩
      have HADV := Lib.hid (fun w h => adv_any ⟨jg, js, jd, jf, ju, jl, jy, ji⟩ no m mx l (.slice A k c) w h HWF.out HQ1.out HQ2.out (by omega))
      unfold Jb.cs at HADV
      simp only at HADV
      have hltl : lt.length = k := by rw [HPR2.out.length_eq, List.length_map]; exact HN.out
      have HLT := Lib.hid hltl
      have z0 := blk_lt TT.out.jb
      have x0 := cellsAt TT.out.jb 0
      have x1 := cellsAt TT.out.jb 1
      have x2 := cellsAt TT.out.jb 2
      have x3 := cellsAt TT.out.jb 3
      have x4 := cellsAt TT.out.jb 4
      have x5 := cellsAt TT.out.jb 5
      have x6 := cellsAt TT.out.jb 6
      have x7 := cellsAt TT.out.jb 7
      have z1 := blk_lt TT.out.gb
      have y0 := cellsAt TT.out.gb 0
      have y1 := cellsAt TT.out.gb 1
      have y2 := cellsAt TT.out.gb 2
      simp at x0 x1 x2 x3 x4 x5 x6 x7 y0 y1 y2
      obtain ⟨wL, hwL⟩ : ∃ X, X = wr := ⟨_, rfl⟩
      subst hwL
      clear hgp hper2 hltl
      go_wp2_with fail
      clear x0 x1 x2 x3 x4 x5 x6 x7 z0 y0 y1 y2 z1
      refine (HADV.out _ (HR.out.below TT.out.bel)).mono ?_
      rintro e w9 ⟨kk, vg, vr, qs, ⟨ga, gb, A2, n2, c2, rfl⟩, hkk, rfl, hoq, hqf, hcl, hop, hb9⟩
      have T9 := Lib.hid (TT.out.below hb9)
      have HOQ := Lib.hid hoq
      have HQF := Lib.hid hqf
      have HCL := Lib.hid hcl
      have HOP := Lib.hid hop
      have HKK := Lib.hid hkk
      obtain ⟨⟨vh, hatL⟩, hhpL⟩ := HOK.out
      obtain ⟨Ah, ch, rfl⟩ := own_slice hatL.2
      have HRB := Lib.hid (fun j hj => hatL.2.lt j hj)
      have HA9 := Lib.hid (hatL.below hb9)
      have HHP := Lib.hid hhpL
      clear hatL hhpL
      have B9 := Lib.hid (bThen HBL.out hb9)
      obtain ⟨Ar, cr, rfl⟩ := own_slice hoq
      have hql : qs.length = kk := by have := congrArg List.length hqf; rw [List.length_map, List.length_take] at this; omega
      rw [hql] at HOQ ⊢
      clear hoq hqf hcl hop hkk hb9
      have z1 := blk_lt T9.out.gb
      have y1 := cellsAt T9.out.gb 1
      simp at y1
      go_wp2_with fail
      clear z1 y1
      obtain ⟨W10, hW10⟩ : ∃ X, X = w9.alloc (.cells #[.int .i64 ga, .int .i64 gb, .slice A2 n2 c2] 49) := ⟨_, rfl⟩
      rw [← hW10]
      have B910 := Lib.hid (show Below w9.heap.size w9 W10 by rw [hW10]; exact bel_alloc (Below.refl _ _) _)
      clear hW10
      have T10 := Lib.hid (T9.out.below B910.out)
      have HA10 := Lib.hid (HA9.out.below B910.out)
      have HOQ10 := Lib.hid (own_below HOQ.out B910.out)
      have B10 := Lib.hid (bThen B9.out B910.out)
      refine (due_any w5.heap.size ch Ah lt mx W10 HA10.out HHP.out (by rw [HLT.out]; omega)).mono ?_
      rintro e w11 ⟨vo, out, l', rfl, hoo, hok11, hdu, hgt, hch⟩
      have hdeq := due_plain HPB.out hdu hgt HPR2.out HCL.out HOP.out HKK.out
      have DEQ := Lib.hid hdeq
      have HOK11 := Lib.hid hok11
      have hbl : Below w5.heap.size W10 w11 := ⟨hch.os, hch.tape, hch.output, hch.size, fun i hi => hch.block i (Nat.lt_of_lt_of_le hi B10.out.size) (by omega) (fun e => by have := (HRB.out i e.symm).1; omega)⟩
      have T11 := Lib.hid (T10.out.low (hbl.mono hl5))
      have B11 := Lib.hid (B10.out.trans hbl)
      have hoq11 := own_keep HOQ10.out (fun i hi => hch.block i (HOQ10.out.lt i hi).2 (by have := (HOQ10.out.lt i hi).1; have := HOK.out.lt; omega) (fun e => by have := (HRB.out i e.symm).2; have := (HOQ10.out.lt i hi).1; omega))
      obtain ⟨Ao, co, rfl⟩ := own_slice hoo
      rw [hdeq.len] at hoo ⊢
      have RQ := Lib.hid (Row.of_own rsOf_len5 hoq11 hql.symm)
      have RO := Lib.hid (Row.of_own Tm.cs_len hoo hdeq.len.symm)
      have HQL := Lib.hid hql
      have hl'n : (l'.length : Int) = (k : Int) - (kk : Int) := by have h1 := hdeq.rest; have h2 := HKK.out; rw [HN.out] at h1 h2; omega
      have hle0 := fun w h => hlen_any w5.heap.size l' w h
      rw [hl'n] at hle0
      have HLE := Lib.hid (fun w h => (hle0 w h).mono (fun e w' (h : _ ∧ _) => show e = .returned (.int .i64 ((k : Int) - (kk : Int))) ∧ ∃ q, w' = w.drewN q from ⟨h.1, 0, h.2⟩))
      clear hle0
      have hkk2 : kk ≤ k := by have h2 := HKK.out; rw [HN.out] at h2; exact h2
      clear hdu hgt hch hbl hoq11 hoo hdeq hok11 hql hl'n HOQ HOQ10 HA9 HA10 T9 T10 B9 B910 B10
      have z1 := blk_lt T11.out.gb
      have y1 := cellsAt T11.out.gb 1
      have y2 := cellsAt T11.out.gb 2
      simp at y1 y2
      go_upto_region 13 with fail
      go_quiet (first | (go_at_call 33; exact Calls.quiet_of (HLE.out _ (HOK11.out.below (bDrewN (Below.refl _ _))))))
      obtain ⟨w12, hw12⟩ : ∃ X, X = w11.drewN nq := ⟨_, rfl⟩
      have T12 := Lib.hid (show TdAt W _ _ _ _ w12 by rw [hw12]; exact T11.out.below (bDrewN (Below.refl _ _)))
      have RQ12 := Lib.hid (show Row rsOf 5 w12 _ qs by rw [hw12]; exact RQ.out.drewN nq)
      have RO12 := Lib.hid (show Row Tm.cs 2 w12 _ out by rw [hw12]; exact RO.out.drewN nq)
      rw [← hw12]
      clear hw12 T11 RQ RO z1 y1 y2 B11 HOK11 HLE HRB
      have hmm := @run_makeMap Try.prog
      obtain ⟨ts, hts⟩ : ∃ x, (l.take kk).map tmOf = x := ⟨_, rfl⟩
      have HTS := Lib.hid hts
      clear hts
      go_wp2_with fail
      clear hmm
      go_loopw [99] (fun i wr => MpRel out ts kk w12 i wr) (fun i _ => kk - (intOf i).toNat)
      case atStart => exact ⟨0, fun _ => 0, Nat.zero_le _, rfl, cm_made _, fun x => rfl, bel_alloc (Below.refl _ _) _⟩
      case round =>
        obtain ⟨i, f, hi, rfl, hcm, hf, hbel⟩ := hrel
        have HCM := Lib.hid hcm
        have HF := Lib.hid hf
        have HBW := Lib.hid hbel
        have TW := Lib.hid (T12.out.below hbel)
        clear hcm hf hbel
        by_cases hik : i < kk
        · obtain ⟨q, hq⟩ : ∃ q, qs[i]? = some q := ⟨_, List.getElem?_eq_getElem (by rw [HQL.out]; exact hik)⟩
          obtain ⟨t, ht⟩ : ∃ t, out[i]? = some t := ⟨_, List.getElem?_eq_getElem (by rw [DEQ.out.len]; exact hik)⟩
          have hq1 : (l.take kk)[i]? = some q.1 := by rw [← HQF.out, List.getElem?_map, hq]; rfl
          have hta : t.a = q.1.hi := by
            have h1 : (out.map Tm.a)[i]? = some t.a := by rw [List.getElem?_map, ht]; rfl
            rw [DEQ.out.ats, List.getElem?_map, hq1] at h1
            injection h1 with h1
            exact h1.symm
          have hts : ts[i]? = some (tmOf q.1) := by rw [← HTS.out, List.getElem?_map, hq1]; rfl
          have hmk : decide (q.1.hi ≤ mx) = true := decide_eq_true (DEQ.out.mrk q.1 (List.mem_of_getElem? hq1))
          have hrow := RQ12.out.below HBW.out
          obtain ⟨b, o, c', hv', -, hb, hX⟩ := hrow.at_ hq
          rw [HQL.out] at hv'
          injection hv' with e1 e2 e3
          subst e1 e3
          have c0 := hX 0 _ rfl
          have c1 := hX 1 _ rfl
          have c2 := hX 2 _ rfl
          have c3 := hX 3 _ rfl
          have c4 := hX 4 _ rfl
          have hrow2 := RO12.out.below HBW.out
          obtain ⟨b2, o2, c'', hv'', -, hb2, hY⟩ := hrow2.at_ ht
          rw [DEQ.out.len] at hv''
          injection hv'' with e4 e5 e6
          subst e4 e6
          have d0 := hY 0 _ rfl
          have d1 := hY 1 _ rfl
          simp only [Nat.add_zero] at c0 c1 c2 c3 c4 d0 d1
          have HTT := Lib.hid ht
          have HTSI := Lib.hid hts
          obtain ⟨⟨lo, hi5, ks, pn, pa, pb⟩, rv⟩ := q
          obtain ⟨ta, tsr⟩ := t
          simp only at hta hmk c0 c1 c2 c3 c4 d0 d1
          subst hta
          unfold tmOf at HTSI
          simp only at HTSI
          clear hX hY hrow hrow2 hq ht hq1 hts e2 e5
          go_upto_region 19 with fail
          obtain ⟨W19, hW19⟩ : ∃ X, X = wr.alloc (.cells #[.int .i64 lo, .int .i64 ta, .string ks, .int .i64 pn, .int .i64 rv] 71) := ⟨_, rfl⟩
          rw [← hW19]
          have B19 := Lib.hid (show Below wr.heap.size wr W19 by rw [hW19]; exact bel_alloc (Below.refl _ _) _)
          have N19 := Lib.hid (show W19.heap[wr.heap.size]? = some (.cells #[.int .i64 lo, .int .i64 ta, .string ks, .int .i64 pn, .int .i64 rv] 71 (0, 0)) by rw [hW19]; exact heap_at _ _ _ rfl)
          clear hW19
          have HD := Lib.hid (show ∀ X, Below wr.heap.size wr X → X.cell? ⟨b2, o2 + i * 2, none⟩ = some (.int .i64 ta) ∧ X.cell? ⟨b2, o2 + i * 2 + 1, none⟩ = some (.string tsr) ∧ b2 < X.heap.size from fun X h => ⟨(h.cell hb2).trans d0, (h.cell hb2).trans d1, Nat.lt_of_lt_of_le hb2 h.size⟩)
          clear c0 c1 c2 c3 c4 d0 d1 hb hb2
          have T19 := Lib.hid (TW.out.below B19.out)
          obtain ⟨d0, d1, hb2⟩ := HD.out W19 B19.out
          have z1 := blk_lt T19.out.gb
          have y1 := cellsAt T19.out.gb 1
          have zb := blk_lt N19.out
          have x0 := cellsAt N19.out 0
          have x1 := cellsAt N19.out 1
          simp at y1 x0 x1
          have hclo := fun w => closed_any lo ta mx w
          rw [hmk] at hclo
          have HCLO := Lib.hid hclo
          clear hclo hmk
          have HMW := Lib.hid (show max mark (IntKind.i64.wrap (m + 1)) = mx by rw [show IntKind.i64.wrap (m + 1) = m + 1 by (rw [IntKind.wrap_i64]; omega)]; exact hmx)
          go_cut [123] (fun p W' => p = .bool false ∧ Below W19.heap.size W19 W')
          case first =>
            go_region_law (go_simp; go_at_call 34; rw [HMW.out]; refine (HCLO.out _).mono ?_; rintro e w20 ⟨rfl, hb20⟩)
            all_goals
              go_wp2_with fail
              go_meet
              exact ⟨rfl, bUndrew hb20⟩
          case rest =>
            obtain ⟨rfl, hbc⟩ := hcut
            have B20 := Lib.hid (bThen B19.out hbc)
            have T20 := Lib.hid (T19.out.below hbc)
            have N20 := Lib.hid (heap_below N19.out hbc)
            have HCM20 := Lib.hid (show CM wc w12.heap.size f by obtain ⟨es, ck, h1, h2⟩ := HCM.out; exact ⟨es, ck, heap_below h1 B20.out, h2⟩)
            clear hbc B19 T19 N19 d0 d1 hb2 z1 y1 zb x0 x1 HCLO HMW
            obtain ⟨wk, hwk⟩ : ∃ X, X = wc := ⟨_, rfl⟩
            subst hwk
            obtain ⟨d0, d1, hb2⟩ := HD.out wk B20.out
            have hcm20 : CM wk.drew w12.heap.size f := HCM20.out
            obtain ⟨fx, hfx⟩ : ∃ z, f ⟨ta, tsr⟩ = z := ⟨_, rfl⟩
            have hfb : -100 ≤ fx ∧ fx ≤ 100 := by
              rw [← hfx, HF.out]
              unfold cntF
              have h1 := cnt_bd (out.take i) ⟨ta, tsr⟩
              have h2 := cnt_bd (ts.take i) ⟨ta, tsr⟩
              rw [List.length_take] at h1 h2
              omega
            obtain ⟨v1, st1, V1, V2, L1, E1, L2, S1, hcm2, hB2, hK1, hK2⟩ := hcm20.turn ⟨ta, tsr⟩ (f ⟨ta, tsr⟩ + 1)
            obtain ⟨g, hg⟩ : ∃ g, updF f ⟨ta, tsr⟩ (f ⟨ta, tsr⟩ + 1) = g := ⟨_, rfl⟩
            rw [hg] at hcm2
            have HGG := Lib.hid hg
            rw [hfx] at L1 L2 S1
            unfold Tm.val at L1 E1 L2
            simp only at L1 E1 L2
            have HCM2 := Lib.hid hcm2
            have BV2 := Lib.hid (show Below w12.heap.size wk V2 from Below.trans (Below.drew (Below.refl _ _)) (hB2 _ (Nat.le_refl _)).2)
            have hMw : w12.heap.size < wr.heap.size := by obtain ⟨es, ck, h1, -⟩ := HCM.out; exact (Array.getElem?_eq_some_iff.1 h1).1
            have N22 := Lib.hid (show V2.heap[wr.heap.size]? = some (.cells #[.int .i64 lo, .int .i64 ta, .string ks, .int .i64 pn, .int .i64 rv] 71 (0, 0)) from (hK2 _ (by omega)).trans N20.out)
            have T22 := Lib.hid (T20.out.low (BV2.out.mono (by have := T12.out.lt; exact this)))
            clear hfx hg hcm2 hB2 hK1 hK2 hcm20
            go_upto_region 21 with fail
            go_cut [130] (fun p W' => p = .int .i64 (fx + 1) ∧ W' = V2)
            case first =>
              go_region
              all_goals
                go_wp2_with fail
                go_meet
                exact ⟨rfl, rfl⟩
            case rest =>
              obtain ⟨rfl, rfl⟩ := hcut
              clear L1 E1 L2 S1 d0 d1 hb2
              obtain ⟨wp, hwp⟩ : ∃ X, X = wc := ⟨_, rfl⟩
              subst hwp
              have zb := blk_lt N22.out
              have x1 := cellsAt N22.out 1
              have x2 := cellsAt N22.out 2
              simp at x1 x2
              have hcm22 : CM wp.drew w12.heap.size g := HCM2.out
              obtain ⟨gx, hgx⟩ : ∃ z, g ⟨ta, ks⟩ = z := ⟨_, rfl⟩
              have hgb : -200 ≤ gx ∧ gx ≤ 200 := by
                rw [← hgx, ← HGG.out]
                unfold updF
                have h1 := cnt_bd (out.take i) ⟨ta, ks⟩
                have h2 := cnt_bd (ts.take i) ⟨ta, ks⟩
                have h3 := cnt_bd (out.take i) ⟨ta, tsr⟩
                have h4 := cnt_bd (ts.take i) ⟨ta, tsr⟩
                rw [List.length_take] at h1 h2 h3 h4
                rw [HF.out, HF.out]
                unfold cntF
                split <;> omega
              obtain ⟨v3, st3, V3, V4, L1, E1, L2, S1, hcm4, hB4, hK3, hK4⟩ := hcm22.turn ⟨ta, ks⟩ (g ⟨ta, ks⟩ - 1)
              obtain ⟨g2, hg2⟩ : ∃ x, updF g ⟨ta, ks⟩ (g ⟨ta, ks⟩ - 1) = x := ⟨_, rfl⟩
              rw [hg2] at hcm4
              have HG2 := Lib.hid hg2
              rw [hgx] at L1 L2 S1
              unfold Tm.val at L1 E1 L2
              simp only at L1 E1 L2
              have HCM4 := Lib.hid hcm4
              have BV4 := Lib.hid (show Below w12.heap.size wp V4 from Below.trans (Below.drew (Below.refl _ _)) (hB4 _ (Nat.le_refl _)).2)
              clear hgx hg2 hcm4 hB4 hK3 hK4 hcm22
              go_upto_region 22 with fail
              go_region
              all_goals
                clear L1 E1 L2 S1 x1 x2 zb
                go_wp2_with fail
                go_roundw
                case rel =>
                  refine ⟨i + 1, g2, by omega, by go_num, HCM4.out, fun x => ?_, ((HBW.out.trans (B20.out.mono (Nat.le_of_lt hMw))).trans BV2.out).trans BV4.out⟩
                  have := cntF_step HTT.out HTSI.out f HF.out x
                  rw [HGG.out, HG2.out] at this
                  exact this
                case measure => simp [intOf]; omega
        · obtain rfl : i = kk := by omega
          obtain ⟨es, ck, hb, hce⟩ := HCM.out
          have hz : ∀ x, f x = 0 := fun x => by rw [HF.out]; exact cntF_end (by rw [← HTS.out]; exact DEQ.out.per) x i (by rw [DEQ.out.len]; exact Nat.le_refl _) (by rw [← HTS.out, List.length_map, List.length_take]; omega)
          have HES := Lib.hid (show ∀ e ∈ es.toList, ∃ x : Tm, e.key = x.val ∧ e.val = .int .i64 0 from fun e he => by obtain ⟨x, h1, h2⟩ := hce.ents e he; exact ⟨x, h1, by rw [h2, hz]⟩)
          have HST := Lib.hid hce.st
          have HBM := Lib.hid hb
          have hMw := (Array.getElem?_eq_some_iff.1 hb).1
          have hrg := run_range_map (P := Try.prog) wr 69 62 3 w12.heap.size es ck Try.underlying69 hb
          have BW := Lib.hid (T12.out.bel.trans (HBW.out.mono T12.out.bel.size))
          obtain ⟨w13, hw13⟩ : ∃ X, X = wr := ⟨_, rfl⟩
          subst hw13
          clear hb hce hz
          go_wp2_with fail
          clear hrg
          go_loopw [] (fun wr => RgRel w12.heap.size ck es w13 wr) (fun wr => (leftOf es (wr.iterSeen w13.heap.size)).size)
          case atStart => exact ⟨#[], ck, heap_alloc_new _ _, Nat.le_refl _, heap_below HBM.out (bel_alloc (Below.refl _ _) _), bel_alloc (Below.refl _ _) _⟩
          case round =>
            obtain ⟨seen, c0, hr, hc0, hb, hbel⟩ := hrel
            have HRI := Lib.hid hr
            have HBI := Lib.hid hb
            have HBL := Lib.hid hbel
            rcases run_next_at (P := Try.prog) wr 0 w13.heap.size w12.heap.size ck c0 seen es ck hr hb HST.out.1 hc0 with ⟨h0, hrun⟩ | ⟨e, he, w1, hw1, hrun⟩
            · have hnx : ∀ ty, (Instr.next (.pointer (some ⟨w13.heap.size, 0, none⟩)) false ty).run Try.prog wr = _ := fun _ => hrun
              clear h0 hr hb hbel hrun
              go_wp2_with fail
              go_ret
              exact ⟨rfl, BW.out.trans (HBL.out.mono (by have := BW.out.size; exact this))⟩
            · obtain ⟨⟨xa, xs⟩, hk, hv⟩ := HES.out e (mem_left he).1
              obtain ⟨V, hV⟩ : ∃ X, X = setBlock w1 w13.heap.size (.mapIter (some w12.heap.size) ck (seen.push e.born) ck) := ⟨_, rfl⟩
              have hw1h : w1.heap = wr.heap := by rcases hw1 with rfl | rfl <;> rfl
              have hlt : w13.heap.size < w1.heap.size := by rw [hw1h]; exact (Array.getElem?_eq_some_iff.1 hr).1
              have hVr : V.heap[w13.heap.size]? = some (.mapIter (some w12.heap.size) ck (seen.push e.born) ck) := by rw [hV]; exact setBlock_heap _ _ _ hlt
              have hVM : V.heap[w12.heap.size]? = some (.map es ck) := by rw [hV, setBlock_other _ _ _ (by omega), hw1h]; exact hb
              have hVB : Below w13.heap.size wr V := by
                rw [hV]
                have h1 : Below w13.heap.size wr w1 := by rcases hw1 with rfl | rfl; exact Below.refl _ _; exact Below.drew (Below.refl _ _)
                exact h1.trans (setBlock_below _ _ _ (Nat.le_refl _))
              have hen := run_entry_at (P := Try.prog) V w13.heap.size w12.heap.size ck seen es ck e hVr hVM (mem_left he).1 HST.out.2.1
              rw [← hV, hk, hv] at hrun
              rw [hk, hv] at hen
              unfold Tm.val at hrun hen
              simp only at hrun hen
              have hnx : ∀ ty, (Instr.next (.pointer (some ⟨w13.heap.size, 0, none⟩)) false ty).run Try.prog wr = _ := fun _ => hrun
              have HE := Lib.hid he
              have HV1 := Lib.hid hVr
              have HV2 := Lib.hid hVM
              have HV3 := Lib.hid hVB
              clear hr hb hbel hrun hV hw1 hw1h hlt hVr hVM hVB he hk hv
              go_wp2_with fail
              go_roundw
              case rel => exact ⟨seen.push e.born, ck, HV1.out, Nat.le_refl _, HV2.out, HBL.out.trans HV3.out⟩
              case measure =>
                rw [iterSeen_at HV1.out, iterSeen_at HRI.out]
                exact left_shrinks es seen e HE.out
end Go.Proofs.Ytlboehpgpbchhaa
