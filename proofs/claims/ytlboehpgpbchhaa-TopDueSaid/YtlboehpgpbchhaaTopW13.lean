/-
  WALKS of the top laws: a pane is put into a row of one's own.
-/
import Derived.Test.YtlboehpgpbchhaaTopW12
set_option linter.unusedVariables false
set_option linter.unusedSimpArgs false
namespace Go.Proofs.Ytlboehpgpbchhaa
open Go.RowKit

theorem pn_take (l : List Pn) (i : Nat) : (l.flatMap Pn.cs).take (i * 6) = (l.take i).flatMap Pn.cs := by
  induction l generalizing i with
  | nil => simp
  | cons a l ih =>
    cases i with
    | zero => simp
    | succ i =>
      rw [List.flatMap_cons, List.take_succ_cons, List.flatMap_cons, ← ih, show (i + 1) * 6 = a.cs.length + i * 6 by simp [Pn.cs_len]; omega, List.take_append, List.take_of_length_le (by omega)]
      congr 1
      congr 1
      omega
theorem pn_drop (l : List Pn) (i : Nat) : (l.flatMap Pn.cs).drop (i * 6) = (l.drop i).flatMap Pn.cs := by
  induction l generalizing i with
  | nil => simp
  | cons a l ih =>
    cases i with
    | zero => simp
    | succ i =>
      rw [List.flatMap_cons, List.drop_succ_cons, ← ih, show (i + 1) * 6 = a.cs.length + i * 6 by simp [Pn.cs_len]; omega, List.drop_append, List.drop_of_length_le (by omega), List.nil_append]
      congr 1
      omega
theorem own_updP {W : World} {base g n c : Nat} {l : List Pn} (h : W.ownsRow base 59 6 (.slice (some ⟨g, 0, none⟩) n c) n (l.flatMap Pn.cs)) {i : Nat} {x : Pn} (hx : l[i]? = some x) (m a b : Int) :
    (((W.setCell ⟨g, i * 6 + 3, none⟩ (.int .i64 m)).setCell ⟨g, i * 6 + 4, none⟩ (.int .i64 a)).setCell ⟨g, i * 6 + 5, none⟩ (.int .i64 b)).ownsRow base 59 6 (.slice (some ⟨g, 0, none⟩) n c) n ((l.set i ⟨x.lo, x.hi, x.k, m, a, b⟩).flatMap Pn.cs) := by
  have h1 := (h.stored (i * 6 + 3) (.int .i64 m)).1
  rw [flat_set Pn.cs_len (x' := ⟨x.lo, x.hi, x.k, m, x.a, x.b⟩) hx (by decide) rfl] at h1
  have h2 := (h1.stored (i * 6 + 4) (.int .i64 a)).1
  have hx2 : (l.set i ⟨x.lo, x.hi, x.k, m, x.a, x.b⟩)[i]? = some ⟨x.lo, x.hi, x.k, m, x.a, x.b⟩ := by rw [List.getElem?_set_self (List.getElem?_eq_some_iff.1 hx).1]
  rw [flat_set Pn.cs_len (x' := ⟨x.lo, x.hi, x.k, m, a, x.b⟩) hx2 (by decide) rfl, List.set_set] at h2
  have h3 := (h2.stored (i * 6 + 5) (.int .i64 b)).1
  have hx3 : (l.set i ⟨x.lo, x.hi, x.k, m, a, x.b⟩)[i]? = some ⟨x.lo, x.hi, x.k, m, a, x.b⟩ := by rw [List.getElem?_set_self (List.getElem?_eq_some_iff.1 hx).1]
  rw [flat_set Pn.cs_len (x' := ⟨x.lo, x.hi, x.k, m, a, b⟩) hx3 (by decide) rfl, List.set_set] at h3
  exact h3
/-- Panes of so many events at most. -/
def PnsM (m : Int) (l : List Pn) : Prop := ∀ q ∈ l, q.Wf ∧ 1 ≤ q.n ∧ q.n ≤ m
theorem pns_ins {m : Int} {l : List Pn} {p : Pn} (h : PnsM m l) (hp : p.Wf ∧ p.n = 1) (hm : 1 ≤ m) (i : Nat) : PnsM m (l.take i ++ p :: l.drop i) := by
  intro q hq
  rcases List.mem_append.1 hq with h1 | h1
  · exact h q (List.mem_of_mem_take h1)
  · rcases List.mem_cons.1 h1 with rfl | h1
    · exact ⟨hp.1, by omega, by omega⟩
    · exact h q (List.mem_of_mem_drop h1)
theorem join_any (f n1 a1 b1 n2 a2 b2 : Int) (w : World) (hf : fR f = true) (h1 : 1 ≤ n1) (h2 : 1 ≤ n2) (h3 : n1 + n2 ≤ 4611686018427387904) (ha : i64B a1 ∧ i64B a2 ∧ i64B b1 ∧ i64B b2) : Calls Try.prog 118 #[.int .i64 f, .agg #[.int .i64 n1, .int .i64 a1, .int .i64 b1], .agg #[.int .i64 n2, .int .i64 a2, .int .i64 b2]] w (JnTo (n1 + n2) w) := by
  unfold fR at hf
  simp at hf
  obtain rfl | rfl | rfl | rfl | rfl : f = 1 ∨ f = 2 ∨ f = 3 ∨ f = 4 ∨ f = 5 := by omega
  · exact join1_any _ _ _ _ _ _ w h1 h2 h3 ha
  · exact join2_any _ _ _ _ _ _ w h1 h2 h3 ha
  · exact join3_any _ _ _ _ _ _ w h1 h2 h3 ha
  · exact join4_any _ _ _ _ _ _ w h1 h2 h3 ha
  · exact join5_any _ _ _ _ _ _ w h1 h2 h3 ha
/-- What pane.put tells. -/
def PuTo (base : Nat) (m : Int) (l : List Pn) (p : Pn) (w : World) (e : Ending) (w' : World) : Prop :=
  ((2000 ≤ l.length ∧ e = .returned (.tuple #[.slice none 0 0, .int .i64 3])) ∨ ∃ (v' : Value) (l' : List Pn), e = .returned (.tuple #[v', .int .i64 0]) ∧ w'.ownsRow base 59 6 v' l'.length (l'.flatMap Pn.cs) ∧ l'.length ≤ l.length + 1 ∧ (l = [] → l' = [p]) ∧ PnsM (m + 1) l') ∧ Below base w w'
set_option maxRecDepth 100000 in
set_option maxHeartbeats 4000000 in
theorem put_any (base : Nat) (m : Int) (f : Int) (l : List Pn) (p : Pn) (v : Value) (w : World) (hown : w.ownsRow base 59 6 v l.length (l.flatMap Pn.cs)) (hbase : base ≤ w.heap.size) (hl : l.length ≤ 2000) (hf : fR f = true) (hm : 1 ≤ m) (hm2 : m ≤ 1000000) (hp : p.Wf ∧ p.n = 1) (hM : PnsM m l) :
    Calls Try.prog 103 #[v, .int .i64 f, p.val] w (PuTo base m l p w) := by
  have HO := Lib.hid hown
  have HP := Lib.hid hp
  have HM := Lib.hid hM
  have HPL := Lib.hid (fun w h => place_any l p v w h hl)
  obtain ⟨n, hn⟩ : ∃ n, l.length = n := ⟨_, rfl⟩
  have HN := Lib.hid hn
  rw [hn] at HO hl HPL
  obtain ⟨A, c, rfl⟩ := own_slice HO.out
  obtain ⟨lo, hi, ks, pn, pa, pb⟩ := p
  unfold Pn.val at HPL ⊢
  simp only at HPL ⊢
  clear hown hp hM hn
  go_enter Try.func103, Try.ntmps103
  go_wp2_with fail
  obtain ⟨W2, hW2⟩ : ∃ X, X = w.alloc (.cells #[.int .i64 lo, .int .i64 hi, .string ks, .int .i64 pn, .int .i64 pa, .int .i64 pb] 59) := ⟨_, rfl⟩
  rw [← hW2]
  have B2 := Lib.hid (show Below w.heap.size w W2 by rw [hW2]; exact bel_alloc (Below.refl _ _) _)
  have Bp := Lib.hid (show W2.heap[w.heap.size]? = some (.cells #[.int .i64 lo, .int .i64 hi, .string ks, .int .i64 pn, .int .i64 pa, .int .i64 pb] 59 (0, 0)) by rw [hW2]; exact heap_at _ _ _ rfl)
  clear hW2
  have O2 := Lib.hid (own_below HO.out B2.out)
  refine (HPL.out _ (Row.of_own Pn.cs_len O2.out HN.out.symm)).mono ?_
  rintro e w3 ⟨⟨i, found, rfl, hi1, hi2⟩, hb3⟩
  have B3 := Lib.hid (bThen B2.out hb3)
  have O3 := Lib.hid (own_below O2.out hb3)
  have Bq := Lib.hid (heap_below Bp.out hb3)
  clear hb3
  cases found with
  | false =>
    have zp := blk_lt Bq.out
    have xp0 := cellsAt Bq.out 0
    have xp1 := cellsAt Bq.out 1
    have xp2 := cellsAt Bq.out 2
    have xp3 := cellsAt Bq.out 3
    have xp4 := cellsAt Bq.out 4
    have xp5 := cellsAt Bq.out 5
    simp at xp0 xp1 xp2 xp3 xp4 xp5
    by_cases h2 : 2000 ≤ n
    · have hd : decide ((2000 : Int) ≤ (n : Int)) = true := decide_eq_true (by omega)
      go_wp2_with fail
      go_ret2
      exact ⟨.inl ⟨by rw [HN.out]; exact h2, rfl⟩, B3.out.mono hbase⟩
    · have hd : decide ((2000 : Int) ≤ (n : Int)) = false := decide_eq_false (by omega)
      go_wp2_with fail
      have hne : (Value.slice A n c).ownBlock ≠ some w3.heap.size := fun e => by have := (O3.out.lt _ e).2; omega
      refine (pninsert base n i w3.heap.size _ _ [.int .i64 lo, .int .i64 hi, .string ks, .int .i64 pn, .int .i64 pa, .int .i64 pb] _ _ (O3.out.alloc _) (by have := B3.out.size; simp; omega) (by omega) hi1 hne (heap_at _ _ _ rfl) rfl Pn.cs_one (by intro u hu; simp at hu; rcases hu with rfl | rfl | rfl | rfl | rfl | rfl <;> rfl)).mono ?_
      rintro e w5 ⟨v5, rfl, ho5, hg5⟩
      have HO5 := Lib.hid ho5
      have HB5 := Lib.hid (show Below base w w5 from ((bel_alloc B3.out _).mono hbase).grown hg5 (by have := B3.out.size; simp; omega) (fun g hg => (O3.out.lt g hg).1))
      clear ho5 hg5 hne zp xp0 xp1 xp2 xp3 xp4 xp5
      go_wp2_with fail
      go_ret2
      refine ⟨.inr ⟨v5, l.take i ++ ⟨lo, hi, ks, pn, pa, pb⟩ :: l.drop i, rfl, ?_, ?_, ?_, ?_⟩, HB5.out⟩
      · have hlen : (l.take i ++ (⟨lo, hi, ks, pn, pa, pb⟩ : Pn) :: l.drop i).length = n + 1 := by simp; have := HN.out; omega
        rw [hlen, List.flatMap_append, List.flatMap_cons, ← pn_take, ← pn_drop]
        exact HO5.out
      · simp; have := HN.out; omega
      · rintro rfl
        simp
      · exact fun q hq => by have := pns_ins HM.out HP.out hm i q hq; exact ⟨this.1, this.2.1, by omega⟩
  | true =>
    have hin : i < n := hi2 rfl
    obtain ⟨g, c', hv', hg1, hg2, hnc⟩ := own_form O3.out (by omega)
    injection hv' with e1 e2 e3
    subst e1 e3
    obtain ⟨cur, hcur⟩ : ∃ cur, w3.heap[g]? = some (.cells cur 59 (0, 0)) := by
      rcases O3.out.2 with ⟨e, -⟩ | ⟨g', cap', cur', hv', -, hg', -⟩
      · cases e
      · injection hv' with e1
        injection e1 with e1
        injection e1 with e1
        subst e1
        exact ⟨_, hg'⟩
    obtain ⟨x, hx⟩ : ∃ x, l[i]? = some x := ⟨_, List.getElem?_eq_getElem (by rw [HN.out]; exact hin)⟩
    have hrow := Row.of_own Pn.cs_len O3.out HN.out.symm
    obtain ⟨b', o', c'', hv', -, -, hX⟩ := hrow.at_ hx
    rw [HN.out] at hv'
    injection hv' with e1 e2 e3
    injection e1 with e1
    injection e1 with e1 e4 e5
    subst e1 e4 e3
    have r3 := hX 3 _ rfl
    have r4 := hX 4 _ rfl
    have r5 := hX 5 _ rfl
    try simp only [Nat.zero_add] at r3 r4 r5
    have HXM := Lib.hid (HM.out x (List.mem_of_getElem? hx))
    have HX := Lib.hid hx
    have hpn := HP.out.2
    try simp only at hpn
    subst hpn
    clear hX hrow hx
    obtain ⟨lo2, hi2', ks2, pn2, pa2, pb2⟩ := x
    try simp only at r3 r4 r5
    have HJ := Lib.hid (fun w => join_any f pn2 pa2 pb2 1 pa pb w hf HXM.out.2.1 (by omega) (by have := HXM.out.2.2; simp only at this; omega) ⟨HXM.out.1.2.2.2.2.1, HP.out.1.2.2.2.2.1, HXM.out.1.2.2.2.2.2, HP.out.1.2.2.2.2.2⟩)
    have HCU := Lib.hid hcur
    have zp := blk_lt Bq.out
    have xp3 := cellsAt Bq.out 3
    have xp4 := cellsAt Bq.out 4
    have xp5 := cellsAt Bq.out 5
    simp at xp3 xp4 xp5
    have hI : (i : Int) < (n : Int) := by omega
    clear hi2 hcur
    go_upto_region 6 with fail
    go_region_law (first | (go_simp; go_at_call 118; refine (HJ.out _).mono ?_; rintro e w6 ⟨⟨ja, jb, rfl, hja, hjb⟩, hb6⟩; have hb6' := bUndrewQ hb6; have O6 := own_below O3.out hb6'; have B6 := bThen B3.out hb6'; have HG6 := heap_below HCU.out hb6'; have zg6 := blk_lt HG6; have fg6 := frozAt HG6; have s3 := (hb6'.cell (p := ⟨g, i * 6 + 3, none⟩) hg2).trans r3; have s4 := (hb6'.cell (p := ⟨g, i * 6 + 4, none⟩) hg2).trans r4; have s5 := (hb6'.cell (p := ⟨g, i * 6 + 5, none⟩) hg2).trans r5))
    all_goals
      have OU := own_updP O6 HX.out (pn2 + 1) ja jb
      simp only at OU
      have BU : Below base w (((w6.setCell ⟨g, i * 6 + 3, none⟩ (.int .i64 (pn2 + 1))).setCell ⟨g, i * 6 + 4, none⟩ (.int .i64 ja)).setCell ⟨g, i * 6 + 5, none⟩ (.int .i64 jb)) := (((B6.mono hbase).setCell (p := ⟨g, i * 6 + 3, none⟩) hg1 _).setCell (p := ⟨g, i * 6 + 4, none⟩) hg1 _).setCell (p := ⟨g, i * 6 + 5, none⟩) hg1 _
      generalize (((w6.setCell ⟨g, i * 6 + 3, none⟩ (.int .i64 (pn2 + 1))).setCell ⟨g, i * 6 + 4, none⟩ (.int .i64 ja)).setCell ⟨g, i * 6 + 5, none⟩ (.int .i64 jb)) = W7 at OU BU ⊢
      have HOU := Lib.hid OU
      have HBU := Lib.hid BU
      have hrow7 := Row.of_own Pn.cs_len OU (by rw [List.length_set]; exact HN.out.symm)
      obtain ⟨b7, o7, c7, hv7, -, hl7, hX7⟩ := hrow7.at_ (i := i) (x := ⟨lo2, hi2', ks2, pn2 + 1, ja, jb⟩) (List.getElem?_set_self (by rw [HN.out]; exact hin))
      rw [List.length_set, HN.out] at hv7
      injection hv7 with e1 e2 e3
      injection e1 with e1
      injection e1 with e1 e4 e5
      subst e1 e4 e3
      have t3 := hX7 3 _ rfl
      try simp only [Nat.zero_add] at t3
      clear OU BU hrow7 hX7 s3 s4 s5 fg6 zg6 HG6 O6 B6 hb6' hb6 r3 r4 r5 xp3 xp4 xp5
      have hge : decide (pn2 + 1 < 1) = false := decide_eq_false (by have h1 : (1 : Int) ≤ pn2 := HXM.out.2.1; omega)
      have hge2 : ¬ (pn2 + 1 < 1) := by simpa using hge
      go_wp2_with fail
      go_ret2
      refine ⟨.inr ⟨_, l.set i ⟨lo2, hi2', ks2, pn2 + 1, ja, jb⟩, rfl, by rw [List.length_set, HN.out]; exact HOU.out, by rw [List.length_set]; omega, ?_, ?_⟩, HBU.out⟩
      · rintro rfl
        have := HN.out
        simp at this
        omega
      · intro q hq
        have h1 : (1 : Int) ≤ pn2 := HXM.out.2.1
        have h2 : pn2 ≤ m := HXM.out.2.2
        rcases List.mem_or_eq_of_mem_set hq with h | rfl
        · have := HM.out q h
          exact ⟨this.1, this.2.1, by omega⟩
        · have hw := HXM.out.1
          exact ⟨⟨hw.1, hw.2.1, hw.2.2.1, by unfold i64B; simp only; omega, hja, hjb⟩, by simp only; omega, by simp only; omega⟩
end Go.Proofs.Ytlboehpgpbchhaa
