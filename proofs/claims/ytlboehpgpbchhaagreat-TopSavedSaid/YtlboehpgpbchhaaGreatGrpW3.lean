/-
  WALKS of the top laws: a group as bytes.
-/
import Derived.Test.YtlboehpgpbchhaaGreatGrpP
import Derived.Deep.RegionHeldLaw
import Derived.Deep.DeepCutAuto
set_option linter.unusedVariables false
set_option linter.unusedSimpArgs false
namespace Go.Proofs.YtlboehpgpbchhaaGreat
open Go.RowKit

theorem step_ownS {P : Program} {ops : Array Oper} {o : Oper} {a : Act} {w : World} {K : Act → World → Prop} {Q : Exit → Act → World → Prop} {E : Prop} (hgd : o.guard = none) (sl x : Operand) (t u : TypeId)
    (ho : o.op = .call { callee := .builtin .append, args := #[sl, x], argTypes := #[t, u] })
    (base : Nat) (e : TypeId) (i : TypeInfo) (ht : P.underlying t = some (.slice e)) (hu : P.underlying u = some .string) (hi : P.info? e = some i) (hz : i.zero = some (.int .u8 0))
    (hsize : i.size = 1) (hby : i.bytes = 1)
    (v : Value) (n : Nat) (xs : List Value) (hs : a.eval sl = v) (hown : w.ownsRow base e 1 v n xs) (s : ByteArray) (hx : a.eval x = .string s)
    (h63 : n + s.size ≤ maxLen) (hbytes : n + s.size ≤ 140737488355328) (hbase : base ≤ w.heap.size)
    (h : ∀ v' w', w'.ownsRow base e 1 v' (n + s.size) (xs ++ Lib.strCells s) → w.grownBy w' v.ownBlock → K (a.put o.dst v') w') :
    if Region.wanted o (yielded ops a.tmps) = true then Oper.wp P o a w K Q else E := by
  rw [if_pos (by simp [Region.wanted, hgd])]
  obtain ⟨v', w', hr, h2, h3, h4⟩ := Lib.run_append_own_string (P := P) w base t u o.type e i ht hu hi hz hsize hby v n xs hown s h63 hbytes hbase
  unfold Oper.wp execOp
  simp only [ho, resolve, invoke, builtin, Sem.run_bind, Sem.run_pure, Result.andThen_ok, List.map_toArray, List.map_cons, List.map_nil, hs, hx, hr]
  exact h v' w' h2 h3
def PtRel (bb : Nat) (hd : List UInt8) (l : List Pn) (W0 : World) (i : Value) (wr : World) : Prop := ∃ k : Nat, k ≤ l.length ∧ i = .int .i64 k ∧ BAt bb (hd ++ (l.take k).flatMap pnBs) wr ∧ OtK bb W0 wr
def GpTo (no m : Int) (l : List Pn) (w : World) (e : Ending) (w' : World) : Prop :=
  e = .returned (.tuple #[.string (if grR no m l = true then ⟨(grBs no m l).toArray⟩ else ⟨#[]⟩), .int .i64 (if grR no m l = true then 0 else 1)]) ∧ Below w.heap.size w w'
set_option maxRecDepth 100000 in
set_option maxHeartbeats 4000000 in
theorem gput_any (no m : Int) (l : List Pn) (v : Value) (w : World) (hv : Row Pn.cs 6 w v l) (hwf : ∀ p ∈ l, p.Wf) (hm : l.length ≤ maxLen) :
    Calls Tryz.prog 13 #[.agg #[.int .i64 no, .int .i64 m, v]] w (GpTo no m l w) := by
  have HR := Lib.hid (fun w h => gright_any no m l v w h (fun p hp => (hwf p hp).2.2.1) hm)
  have HV := Lib.hid hv
  have HWF := Lib.hid hwf
  unfold GpTo
  obtain ⟨q, hq⟩ : ∃ q, grR no m l = q := ⟨_, rfl⟩
  have HQ := Lib.hid hq
  rw [hq] at HR ⊢
  obtain ⟨A, c, rfl, hc, -⟩ := hv
  obtain ⟨n, hn⟩ : ∃ n, l.length = n := ⟨_, rfl⟩
  have HN := Lib.hid hn
  rw [hn] at HV HR hc ⊢
  obtain ⟨i0, hi, hz0, hz1, hz2⟩ := info_parts info_u8
  clear hq hn hm hwf
  go_enter Tryz.func13, Tryz.ntmps13
  go_wp2_with fail
  have G1 := Lib.hid (heap_at w (.cells #[.int .i64 no, .int .i64 m, .slice A n c] 56 (0, 0)) _ rfl)
  refine (HR.out _ (HV.out.alloc _)).mono ?_
  rintro e w2 ⟨rfl, hb2⟩
  have B2 := Lib.hid (belA (Below.refl _ _) hb2)
  have RW2 := Lib.hid ((HV.out.alloc (.cells #[.int .i64 no, .int .i64 m, .slice A n c] 56)).below hb2)
  have G2 := Lib.hid (heap_below G1.out hb2)
  clear hb2 G1
  cases q with
  | false =>
    go_wp2_with fail
    go_ret2
    exact ⟨by simp, B2.out⟩
  | true =>
    have hgr := gr_pr HQ.out
    have HGR := Lib.hid hgr
    have HPO := Lib.hid (show ∀ p ∈ l, PnOk p from fun p hp => pm_ok (pr_pm hgr.2.2.2.2.1 p hp) (HWF.out p hp))
    have hn2 : n ≤ 2000 := by rw [← HN.out]; exact hgr.2.2.2.2.2
    have zg := blk_lt G2.out
    have y0 := cellsAt G2.out 0
    have y1 := cellsAt G2.out 1
    have y2 := cellsAt G2.out 2
    simp at y0 y1 y2
    clear hgr
    go_wp2_with fail
    obtain ⟨W3, hW3⟩ : ∃ X, X = (w2.alloc (.cells #[.slice none 0 0] 88)).alloc (.cells #[.int .i64 no, .int .i64 m, .int .i64 n] 2) := ⟨_, rfl⟩
    have B3 := Lib.hid (show Below w2.heap.size w2 W3 by rw [hW3]; exact bel_alloc (bel_alloc (Below.refl _ _) _) _)
    have BB3 := Lib.hid (show BAt w2.heap.size [] W3 by rw [hW3]; exact ⟨none, 0, heap_below (heap_at _ _ _ rfl) (bel_alloc (Below.refl _ _) _), World.ownsRow_nil _ _ _ _⟩)
    have N3 := Lib.hid (show W3.heap[w2.heap.size + 1]? = some (.cells (([no, m, (n : Int)]).map (Value.int .i64)).toArray 2 (0, 0)) by rw [hW3]; exact heap_at _ _ _ (by simp))
    have hz3 : W3.heap.size = w2.heap.size + 2 := by rw [hW3]; simp
    rw [← hW3]
    clear hW3
    refine (numbers_any w2.heap.size (w2.heap.size + 1) [no, m, (n : Int)] [] W3 BB3.out N3.out (by omega) (by have := HGR.out; simp; omega) (by simp) (by simp)).mono ?_
    rintro e w4 ⟨⟨u, rfl⟩, hba, hot⟩
    obtain ⟨hd, hhd⟩ : ∃ x, ([no, m, (n : Int)]).flatMap kNum = x := ⟨_, rfl⟩
    have HHD := Lib.hid hhd
    have hhl : hd.length ≤ 30 := by rw [← hhd]; exact kNums_le (ns := [no, m, (n : Int)]) (by have := HGR.out; simp; omega)
    rw [hhd, List.nil_append] at hba
    have BA4 := Lib.hid hba
    have OT4 := Lib.hid hot
    have G4 := Lib.hid (hot.oth w.heap.size _ (heap_below G2.out B3.out) (by omega) (fun cs e => by cases e))
    clear hba hot hhd y0 y1 y2 zg G2 BB3 N3
    have zg := blk_lt G4.out
    have y2 := cellsAt G4.out 2
    simp at y2
    go_wp2_with fail
    go_loopw [27] (fun i wr => PtRel w2.heap.size hd l W3 i wr) (fun i _ => n - (intOf i).toNat)
    case atStart => exact ⟨0, Nat.zero_le _, rfl, by simpa using BA4.out, OT4.out⟩
    case round =>
      obtain ⟨k, hk, rfl, hbk, hot⟩ := hrel
      rw [HN.out] at hk
      have BK := Lib.hid hbk
      have OT := Lib.hid hot
      clear hbk hot y2 zg G4 OT4 BA4
      have BW := Lib.hid (show Below w2.heap.size w2 wr from B3.out.trans OT.out.low)
      by_cases hlt : k < n
      rotate_left
      · obtain rfl : k = n := by omega
        obtain ⟨Ab, cb, hbx, hox⟩ := BK.out
        have hlb : hd ++ (l.take k).flatMap pnBs = grBs no m l := by unfold grBs; rw [HN.out, HHD.out, ← HN.out, List.take_length]
        rw [hlb] at hbx hox
        have HLB := Lib.hid hlb
        have hne : 0 < (grBs no m l).length := by rw [← hlb, ← HHD.out, List.length_append]; simp [kNum, dig_length]; omega
        obtain ⟨gb, cb', hv', -⟩ := own_form hox hne
        injection hv' with e1 e2 e3
        subst e1 e3
        obtain ⟨ll, hll⟩ : ∃ x, (grBs no m l).length = x := ⟨_, rfl⟩
        have HLL := Lib.hid hll
        rw [hll] at hbx hox
        have hcv := conv_own wr (w2.heap.size + 1) gb cb ll (grBs no m l) hll.symm hox
        have zb := blk_lt hbx
        have cb0 := cellsAt hbx 0
        simp at cb0
        have HB := Lib.hid (show Below w.heap.size w wr from bThen B2.out BW.out)
        clear hlb hne hox hbx hll e2
        go_wp2_with fail
        go_ret2
        exact ⟨by simp, HB.out⟩
      obtain ⟨x, hx⟩ : ∃ x, l[k]? = some x := ⟨_, List.getElem?_eq_getElem (by rw [HN.out]; exact hlt)⟩
      have hrow := RW2.out.below BW.out
      obtain ⟨b, o, c2, hv', -, hb, hX⟩ := hrow.at_ hx
      rw [HN.out] at hv'
      injection hv' with e1 e2 e3
      subst e1 e3
      have c0 := hX 0 _ rfl
      have c1 := hX 1 _ rfl
      have c2 := hX 2 _ rfl
      have c3 := hX 3 _ rfl
      have c4 := hX 4 _ rfl
      have c5 := hX 5 _ rfl
      simp only [Nat.add_zero] at c0 c1 c2 c3 c4 c5
      have HX := Lib.hid hx
      have HXO := Lib.hid (HPO.out x (List.mem_of_getElem? hx))
      have HTL := Lib.hid (show ((l.take k).flatMap pnBs).length ≤ 152000 from Nat.le_trans (pnBss_le fun p hp => HPO.out p (List.mem_of_mem_take hp)) (by rw [List.length_take]; omega))
      clear hX hrow hx e2
      obtain ⟨lo, hi2, ks, pn, pa, pb⟩ := x
      simp only at c0 c1 c2 c3 c4 c5
      have hI : (k : Int) < (n : Int) := by omega
      have hks : ks.size ≤ 4096 := Nat.le_trans HXO.out.1 (by decide)
      have HTX := Lib.hid (fun w => textS_yes ks w hks)
      clear hks
      go_wp2_with fail
      obtain ⟨W5, hW5⟩ : ∃ X, X = wr.alloc (.cells #[.int .i64 lo, .int .i64 hi2, .string ks, .int .i64 pn, .int .i64 pa, .int .i64 pb] 109) := ⟨_, rfl⟩
      rw [← hW5]
      have B5 := Lib.hid (show Below wr.heap.size wr W5 by rw [hW5]; exact bel_alloc (Below.refl _ _) _)
      have P5 := Lib.hid (show W5.heap[wr.heap.size]? = some (.cells #[.int .i64 lo, .int .i64 hi2, .string ks, .int .i64 pn, .int .i64 pa, .int .i64 pb] 109 (0, 0)) by rw [hW5]; exact heap_at _ _ _ rfl)
      clear hW5 c0 c1 c2 c3 c4 c5 hb
      refine (HTX.out _).mono ?_
      rintro e w6 ⟨rfl, hb6⟩
      have hbr : w2.heap.size < wr.heap.size := by obtain ⟨A', c', h1, -⟩ := BK.out; exact blk_lt h1
      have HBR := Lib.hid hbr
      have BT6 := Lib.hid (BK.out.below (bThen B5.out hb6))
      have OT6 := Lib.hid (OT.out.trans (OtK.bel (bThen B5.out hb6) (Nat.le_of_lt hbr)))
      have P6 := Lib.hid (heap_below P5.out hb6)
      clear hbr hb6 B5 P5
      obtain ⟨A6, c6, hbx, hox⟩ := BT6.out
      obtain ⟨l6, hl6⟩ : ∃ x, hd ++ (l.take k).flatMap pnBs = x := ⟨_, rfl⟩
      have HL6 := Lib.hid hl6
      rw [hl6] at hbx hox
      obtain ⟨n6, hn6⟩ : ∃ x, l6.length = x := ⟨_, rfl⟩
      have HN6 := Lib.hid hn6
      rw [hn6] at hbx hox
      have hn6b : n6 ≤ 152030 := by rw [← hn6, ← hl6, List.length_append]; have := HTL.out; omega
      have hsz : (digS ks.size ++ ks).size = (pnB1 ⟨lo, hi2, ks, pn, pa, pb⟩).length := by
        unfold pnB1
        rw [ByteArray.size_append, digS_size, List.length_append]
        congr 1
      have hszb : (pnB1 ⟨lo, hi2, ks, pn, pa, pb⟩).length ≤ 76 := by have := pnBs_le HXO.out; unfold pnBs at this; rw [List.length_append] at this; omega
      have HS1 := Lib.hid hszb
      have HBX := Lib.hid hbx
      have HOX := Lib.hid hox
      have zb := blk_lt hbx
      have cb := cellsAt hbx 0
      simp at cb
      have zp := blk_lt P6.out
      have xp2 := cellsAt P6.out 2
      simp at xp2
      clear hbx hox hl6 hn6
      go_upto_region 11 with (at_builtin; refine Lib.wpList_append_own_string _ rfl _ _ 88 9 rfl (w2.heap.size + 1) 5 i0 Tryz.underlying88 Tryz.underlying9 hi hz0 hz1 hz2 _ _ _ rfl HOX.out (digS ks.size ++ ks) rfl (by unfold maxLen; omega) (by omega) (by omega) ?_; intro v' w7 hown' hgrow hx9; clear hx9; obtain ⟨A', c', rfl⟩ := own_slice hown'; rw [strCells_eq, show (digS ks.size ++ ks).data.toList = pnB1 ⟨lo, hi2, ks, pn, pa, pb⟩ by unfold pnB1; rw [ByteArray.data_append, Array.toList_append, digS_list]] at hown'; obtain ⟨h71, h72, h73⟩ := BAt.app (bs := pnB1 ⟨lo, hi2, ks, pn, pa, pb⟩) HBX.out HOX.out hown' (by rw [hsz, HN6.out]) rfl hgrow; have z7 := blk_lt h71; have c7 := cellsAt h71 0; have f7 := frozAt h71; simp at c7)
      obtain ⟨W8, hW8⟩ : ∃ X, X = w7.setCell ⟨w2.heap.size, 0, none⟩ (.slice A' (n6 + (digS ks.size ++ ks).size) c') := ⟨_, rfl⟩
      have hW8' := hW8
      rw [hsz] at hW8'
      rw [hsz, ← hW8'] at h72 h73
      try rw [← hW8]
      try rw [← hW8']
      have BT8 := Lib.hid h72
      have OT8 := Lib.hid (OT6.out.trans h73)
      have P8 := Lib.hid (h73.oth wr.heap.size _ P6.out (by have := HBR.out; omega) (fun cs e => by cases e))
      have HZ8 := Lib.hid (show wr.heap.size < W8.heap.size from blk_lt (h73.oth wr.heap.size _ P6.out (by have := HBR.out; omega) (fun cs e => by cases e)))
      clear hW8 hW8' h71 h72 h73 hown' hgrow z7 c7 f7 zb cb zp xp2 hsz BT6 OT6 P6
      have zp := blk_lt P8.out
      have xp0 := cellsAt P8.out 0
      have xp1 := cellsAt P8.out 1
      have xp3 := cellsAt P8.out 3
      simp at xp0 xp1 xp3
      go_wp2_with fail
      obtain ⟨W9, hW9⟩ : ∃ X, X = W8.alloc (.cells #[.int .i64 lo, .int .i64 hi2, .int .i64 pn] 2) := ⟨_, rfl⟩
      have B9 := Lib.hid (show Below W8.heap.size W8 W9 by rw [hW9]; exact bel_alloc (Below.refl _ _) _)
      have N9 := Lib.hid (show W9.heap[W8.heap.size]? = some (.cells (([lo, hi2, pn]).map (Value.int .i64)).toArray 2 (0, 0)) by rw [hW9]; exact heap_at _ _ _ rfl)
      rw [← hW9]
      clear hW9
      refine (numbers_any w2.heap.size W8.heap.size [lo, hi2, pn] (l6 ++ pnB1 ⟨lo, hi2, ks, pn, pa, pb⟩) W9 (BT8.out.below B9.out) N9.out (by have := HZ8.out; have := HBR.out; omega) (by have ⟨_, h2, h3, h4, h5, h6, h7, _⟩ := HXO.out; intro n' hn'; simp only [List.mem_cons, List.not_mem_nil, or_false] at hn'; try simp only at h2 h3 h4 h5 h6 h7; rcases hn' with rfl | rfl | rfl <;> omega) (by simp) (by rw [List.length_append, HN6.out]; have := HS1.out; omega)).mono ?_
      rintro e w10 ⟨⟨u2, rfl⟩, hba, hot⟩
      have BT10 := Lib.hid (show BAt w2.heap.size ((l6 ++ pnB1 ⟨lo, hi2, ks, pn, pa, pb⟩) ++ pnB2 ⟨lo, hi2, ks, pn, pa, pb⟩) w10 from hba)
      have OT10 := Lib.hid ((OT8.out.trans (OtK.bel B9.out (by have := HZ8.out; have := HBR.out; omega))).trans hot)
      have P10 := Lib.hid (hot.oth wr.heap.size _ (heap_below P8.out B9.out) (by have := HBR.out; omega) (fun cs e => by cases e))
      clear hba hot BT8 OT8 P8 N9 B9 zp xp0 xp1 xp3
      obtain ⟨A10, c10, hbx, hox⟩ := BT10.out
      obtain ⟨l10, hl10⟩ : ∃ x, (l6 ++ pnB1 ⟨lo, hi2, ks, pn, pa, pb⟩) ++ pnB2 ⟨lo, hi2, ks, pn, pa, pb⟩ = x := ⟨_, rfl⟩
      have HL10 := Lib.hid hl10
      rw [hl10] at hbx hox
      obtain ⟨n10, hn10⟩ : ∃ x, l10.length = x := ⟨_, rfl⟩
      have HN10 := Lib.hid hn10
      rw [hn10] at hbx hox
      have hn10b : n10 ≤ 152106 := by
        rw [← hn10, ← hl10, List.length_append, List.length_append, HN6.out]
        have := pnBs_le HXO.out
        unfold pnBs at this
        rw [List.length_append, List.length_append] at this
        omega
      obtain ⟨W10, hW10⟩ : ∃ X, X = w10 := ⟨_, rfl⟩
      rw [← hW10] at hbx hox OT10 P10 ⊢
      clear hW10 BT10
      have HQX := Lib.hid (show BXO w2.heap.size n10 c10 A10 l10 W10 from ⟨hbx, hox⟩)
      have zb := blk_lt hbx
      have cb := cellsAt hbx 0
      have fb := frozAt hbx
      have zp := blk_lt P10.out
      have xp4 := cellsAt P10.out 4
      have xp5 := cellsAt P10.out 5
      simp at cb xp4 xp5
      have hza := zz_lt (n := pa) HXO.out.2.2.2.2.2.2.2.1.1 HXO.out.2.2.2.2.2.2.2.1.2
      have hzb := zz_lt (n := pb) HXO.out.2.2.2.2.2.2.2.2.1 HXO.out.2.2.2.2.2.2.2.2.2
      have hsa : (digS (zz pa)).size ≤ 10 := by rw [digS_size]; exact dig_le hza
      have hsb : (digS (zz pb)).size ≤ 10 := by rw [digS_size]; exact dig_le hzb
      have hsum : ¬ (9223372036854775807 < (digS (zz pa)).size + (digS (zz pb)).size) := by omega
      have HSA := Lib.hid (fun w => signed_any pa w HXO.out.2.2.2.2.2.2.2.1.1 HXO.out.2.2.2.2.2.2.2.1.2)
      have HSB := Lib.hid (fun w => signed_any pb w HXO.out.2.2.2.2.2.2.2.2.1 HXO.out.2.2.2.2.2.2.2.2.2)
      have hszs : (digS (zz pa) ++ digS (zz pb)).size ≤ 20 := by rw [ByteArray.size_append]; omega
      have HZS := Lib.hid hszs
      have HBRN := Lib.hid (show wr.heap.size ≠ w2.heap.size by have := HBR.out; omega)
      have hsz3 : (digS (zz pa) ++ digS (zz pb)).size = (pnB3 ⟨lo, hi2, ks, pn, pa, pb⟩).length := by unfold pnB3; rw [ByteArray.size_append, digS_size, digS_size, List.length_append]
      have hdt3 : (digS (zz pa) ++ digS (zz pb)).data.toList = pnB3 ⟨lo, hi2, ks, pn, pa, pb⟩ := by unfold pnB3; rw [ByteArray.data_append, Array.toList_append, digS_list, digS_list]
      clear hbx hox hl10 hn10 hza hzb hszs
      go_upto_region 12 with fail
      go_region_law (first | (go_simp; go_at_call 42; with_reducible refine (HSA.out _).mono ?_; rintro e wa ⟨rfl, hba⟩; have QA : BXO w2.heap.size n10 c10 A10 l10 wa := BXO.below HQX.out (bUndrewQ hba); have oa := OtK.bel (bUndrewQ hba) (Nat.le_of_lt zb); have za := blk_lt QA.hp; have ca := QA.cl; have pa1 := oa.oth wr.heap.size _ P10.out HBRN.out (notU8 (by decide)); have pz1 := blk_lt pa1; have p15 := cellsAt pa1 5; simp at p15; clear pa1) | (go_simp; go_at_call 42; with_reducible refine (HSB.out _).mono ?_; rintro e wb ⟨rfl, hbb⟩; have QB : BXO w2.heap.size n10 c10 A10 l10 wb := BXO.below QA hbb; have ob := oa.trans (OtK.bel hbb (Nat.le_of_lt za)); have zb2 := blk_lt QB.hp; have cb2 := QB.cl) | (refine step_ownS rfl _ _ 88 9 rfl (w2.heap.size + 1) 5 i0 Tryz.underlying88 Tryz.underlying9 hi hz0 hz1 hz2 _ _ _ rfl QB.own (digS (zz pa) ++ digS (zz pb)) rfl (by unfold maxLen; have := HZS.out; omega) (by have := HZS.out; omega) zb2 ?_; intro v' w12 hown' hgrow; obtain ⟨A', c', rfl⟩ := own_slice hown'; rw [strCells_eq, hdt3] at hown'; obtain ⟨h121, h122, h123⟩ := BAt.app (bs := pnB3 ⟨lo, hi2, ks, pn, pa, pb⟩) QB.hp QB.own hown' (by rw [hsz3, HN10.out]) rfl hgrow; have z12 := blk_lt h121; have c12 := boxCl h121; have f12 := boxFz h121))
      all_goals
        rw [hsz3] at h122 h123
        have HE := Lib.hid h122
        have HO2 := Lib.hid (OT10.out.trans (ob.trans h123))
        clear h121 h122 h123 hown' hgrow z12 c12 f12 QA QB oa ob za zb2 ca cb2 zb cb zp xp4 xp5 hba hbb
        go_wp2_with fail
        go_roundw
        case rel =>
          refine ⟨k + 1, by rw [HN.out]; omega, by go_num, ?_, ?_⟩
          · have h9 := HE.out
            rw [← HL10.out, ← HL6.out] at h9
            rw [List.take_add_one, HX.out]
            have e9 : hd ++ (l.take k ++ (some (⟨lo, hi2, ks, pn, pa, pb⟩ : Pn)).toList).flatMap pnBs = hd ++ (l.take k).flatMap pnBs ++ pnB1 ⟨lo, hi2, ks, pn, pa, pb⟩ ++ pnB2 ⟨lo, hi2, ks, pn, pa, pb⟩ ++ pnB3 ⟨lo, hi2, ks, pn, pa, pb⟩ := by
              rw [List.flatMap_append]
              simp [pnBs]
            rw [e9]
            first | exact h9 | (rw [hsz3]; exact h9)
          · first | exact HO2.out | (rw [hsz3]; exact HO2.out)
        case measure => simp [intOf]; omega
end Go.Proofs.YtlboehpgpbchhaaGreat
