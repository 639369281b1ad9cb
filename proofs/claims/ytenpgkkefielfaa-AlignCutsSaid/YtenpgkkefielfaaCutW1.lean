/-
  WALKS of the law AlignCuts: an input's items, the barriers numbered (printed by mkCutW1.py).
-/
import Derived.Test.YtenpgkkefielfaaCutP3
set_option linter.unusedVariables false
set_option linter.unusedSimpArgs false
namespace Go.Proofs.Ytenpgkkefielfaa
open Go.RowKit

/-- A row that is being built: so many barriers stand in it. -/
structure CutPart (n : Nat) (r : List It) (e : Nat → Nat) : Prop where
  seg : ∀ c, c < n → sgo e c ≤ e c
  lt : ∀ c, c < n → e c < r.length
  bar : ∀ c : Nat, c < n → r[e c]? = some (barI ((c : Int) + 1))
  mark : ∀ p x, r[p]? = some x → (∀ c, c < n → p ≠ e c) → x.kind ≠ 4
  ok : ∀ x ∈ r, rightI x = true ∧ x.Wf
  top : sgo e n ≤ r.length
theorem sgo_upd (e : Nat → Nat) (n v : Nat) : ∀ c, c ≤ n → sgo (updN e n v) c = sgo e c
  | 0, _ => rfl
  | c + 1, h => by
    show updN e n v c + 1 = e c + 1
    rw [updN_other _ _ (by omega)]
theorem CutPart.nil : CutPart 0 [] (fun _ => 0) := ⟨fun c h => by omega, fun c h => by omega, fun c h => by omega, fun p x h => by simp at h, fun x h => by simp at h, Nat.le_refl _⟩
theorem CutPart.addMark {n : Nat} {r : List It} {e : Nat → Nat} (h : CutPart n r e) {x : It} (hk : x.kind ≠ 4) (hx : rightI x = true ∧ x.Wf) : CutPart n (r ++ [x]) e := by
  refine ⟨h.seg, fun c hc => by rw [List.length_append]; have := h.lt c hc; omega, fun c hc => by rw [List.getElem?_append_left (h.lt c hc)]; exact h.bar c hc, ?_, ?_, by rw [List.length_append]; have := h.top; omega⟩
  · intro p y hy hp
    by_cases hpl : p < r.length
    · rw [List.getElem?_append_left hpl] at hy
      exact h.mark p y hy hp
    · rw [List.getElem?_append_right (by omega)] at hy
      obtain ⟨hl, hy⟩ := List.getElem?_eq_some_iff.1 hy
      have hy : x = y := by simpa using hy
      rw [← hy]
      exact hk
  · intro y hy
    rcases List.mem_append.1 hy with h1 | h1
    · exact h.ok y h1
    · rw [List.mem_singleton.1 h1]
      exact hx
theorem CutPart.addBar {n : Nat} {r : List It} {e : Nat → Nat} (h : CutPart n r e) (hx : rightI (barI ((n : Int) + 1)) = true ∧ (barI ((n : Int) + 1)).Wf) : CutPart (n + 1) (r ++ [barI ((n : Int) + 1)]) (updN e n r.length) := by
  refine ⟨?_, ?_, ?_, ?_, ?_, ?_⟩
  · intro c hc
    rw [sgo_upd _ _ _ _ (by omega)]
    by_cases e1 : c = n
    · subst e1
      rw [updN_same]
      exact h.top
    · rw [updN_other _ _ e1]
      exact h.seg c (by omega)
  · intro c hc
    rw [List.length_append]
    by_cases e1 : c = n
    · subst e1
      rw [updN_same]
      simp
    · rw [updN_other _ _ e1]
      have := h.lt c (by omega)
      omega
  · intro c hc
    by_cases e1 : c = n
    · subst e1
      rw [updN_same, List.getElem?_append_right (Nat.le_refl _), Nat.sub_self]
      rfl
    · rw [updN_other _ _ e1, List.getElem?_append_left (h.lt c (by omega))]
      exact h.bar c (by omega)
  · intro p y hy hp
    by_cases hpl : p < r.length
    · rw [List.getElem?_append_left hpl] at hy
      exact h.mark p y hy (fun c hc => by have := hp c (by omega); rw [updN_other _ _ (by omega)] at this; exact this)
    · exfalso
      obtain ⟨hl, -⟩ := List.getElem?_eq_some_iff.1 hy
      rw [List.length_append] at hl
      simp at hl
      have := hp n (by omega)
      rw [updN_same] at this
      omega
  · intro y hy
    rcases List.mem_append.1 hy with h1 | h1
    · exact h.ok y h1
    · rw [List.mem_singleton.1 h1]
      exact hx
  · show updN e n r.length n + 1 ≤ _
    rw [updN_same, List.length_append]
    simp
theorem CutPart.done {B : Nat} {r : List It} {e : Nat → Nat} (h : CutPart B r e) (hl : r.length ≤ 14) : CutRow B r (updN e B r.length) := by
  refine ⟨updN_same _ _ _, ?_, ?_, ?_, h.ok, hl⟩
  · intro c hc
    rw [sgo_upd _ _ _ _ hc]
    by_cases e1 : c = B
    · subst e1
      rw [updN_same]
      exact h.top
    · rw [updN_other _ _ e1]
      exact h.seg c (by omega)
  · intro c hc
    rw [updN_other _ _ (by omega)]
    exact h.bar c hc
  · intro p x hx hp
    exact h.mark p x hx (fun c hc => by have := hp c hc; rw [updN_other _ _ (by omega)] at this; exact this)
def mkI (t : Int) : It := ⟨2, ⟨#[]⟩, 0, 0, t, 0, 0, 0, ⟨#[]⟩, 0, 0⟩
theorem mkI_ok {t : Int} (h0 : 0 ≤ t) (h1 : t ≤ 1099511627776) : rightI (mkI t) = true ∧ (mkI t).Wf := by
  constructor
  · have d0 : decide (0 ≤ t) = true := decide_eq_true h0
    have d1 : decide (t ≤ 1099511627776) = true := decide_eq_true h1
    simp [rightI, bareB, bareI, sameI, mkI, itZ, h0, h1]
  · exact ⟨by unfold wfL mkI; simp, Nat.zero_le _, by unfold wfL mkI; simp, by unfold wfL mkI; simp, by unfold wfL mkI; simp only; omega, by unfold wfL mkI; simp, by unfold wfL mkI; simp, by unfold wfL mkI; simp, Nat.zero_le _, by unfold wfL mkI; simp, by unfold wfL mkI; simp⟩
theorem barI_ok {n : Int} (h0 : 1 ≤ n) (h1 : n ≤ 3) : rightI (barI n) = true ∧ (barI n).Wf := by
  constructor
  · simp [rightI, bareB, bareI, sameI, barI, itZ, h0, show n ≤ 1073741824 by omega]
  · exact bar_wf (by unfold wfL; omega)
/-- What row tells. -/
def RwTo (B : Nat) (w : World) (e : Ending) (w' : World) : Prop :=
  ∃ (vo : Value) (r : List It) (es : Nat → Nat), e = .returned vo ∧ w'.ownsRow w.heap.size 43 11 vo r.length (r.flatMap It.cs) ∧ CutRow B r es ∧ Below w.heap.size w w'
def RwRel (B m : Nat) (w : World) (vo vn vi : Value) (wr : World) : Prop :=
  ∃ (i n : Nat) (r : List It) (es : Nat → Nat), vi = .int .i64 i ∧ vn = .int .i64 n ∧ i ≤ m ∧ i ≤ 12 ∧ n ≤ B ∧ r.length ≤ i ∧ CutPart n r es ∧ wr.ownsRow w.heap.size 43 11 vo r.length (r.flatMap It.cs) ∧ Below w.heap.size w wr
def Rw2Rel (B : Nat) (w : World) (vo vn : Value) (wr : World) : Prop :=
  ∃ (n : Nat) (r : List It) (es : Nat → Nat), vn = .int .i64 n ∧ n ≤ B ∧ r.length ≤ 12 + n ∧ CutPart n r es ∧ wr.ownsRow w.heap.size 43 11 vo r.length (r.flatMap It.cs) ∧ Below w.heap.size w wr
set_option maxRecDepth 100000 in
set_option maxHeartbeats 4000000 in
theorem crow_any (l : List It) (v : Value) (B : Nat) (w : World) (hv : RowI w v l) (hB : B ≤ 2) :
    Calls Try.prog 16 #[v, .int .i64 (B : Int)] w (RwTo B w) := by
  obtain ⟨hv, -, hl⟩ := hv
  have HV := Lib.hid hv
  obtain ⟨i0, hi0', hz0, hz1, hz2⟩ := info_parts info_it
  have HI := Lib.hid hi0'
  have HZ0 := Lib.hid hz0
  have HZ1 := Lib.hid hz1
  have HZ2 := Lib.hid hz2
  unfold itV at HZ0
  obtain ⟨A, c, rfl, hc, -⟩ := hv
  obtain ⟨m, hm⟩ : ∃ m, l.length = m := ⟨_, rfl⟩
  have HM := Lib.hid hm
  rw [hm] at HV hl ⊢
  unfold maxLen at hl
  clear hi0' hz0 hz1 hz2 hm hc
  go_enter Try.func16, Try.ntmps16
  go_wp2_with fail
  go_loopw [5, 6, 11] (fun vo vn vi wr => RwRel B m w vo vn vi wr) (fun _ _ vi _ => m - (intOf vi).toNat)
  case atStart => exact ⟨0, 0, [], fun _ => 0, rfl, rfl, Nat.zero_le _, Nat.zero_le _, Nat.zero_le _, Nat.le_refl _, CutPart.nil, World.ownsRow_nil _ _ _ _, Below.refl _ _⟩
  case round =>
    obtain ⟨i, n, r, es, rfl, rfl, him, hi12, hnB, hri, hcp, hown, hbel⟩ := hrel
    have HC := Lib.hid hcp
    have HO := Lib.hid hown
    have HB := Lib.hid hbel
    obtain ⟨Ao, co, rfl⟩ := own_slice hown
    obtain ⟨k, hk⟩ : ∃ k, r.length = k := ⟨_, rfl⟩
    have HK := Lib.hid hk
    rw [hk] at HO hri ⊢
    clear hcp hown hbel hk
    by_cases hlt : i < m
    · obtain ⟨x, hx⟩ : ∃ x, l[i]? = some x := ⟨_, List.getElem?_eq_getElem (by rw [HM.out]; exact hlt)⟩
      have hrow := HV.out.below HB.out
      obtain ⟨b, o, c', hv', -, hb, hX⟩ := hrow.at_ hx
      rw [HM.out] at hv'
      injection hv' with e1 e2 e3
      subst e1 e3
      have c0 := hX 0 _ rfl
      have c1 := hX 1 _ rfl
      have c2 := hX 2 _ rfl
      have c3 := hX 3 _ rfl
      have c4 := hX 4 _ rfl
      have c5 := hX 5 _ rfl
      have c6 := hX 6 _ rfl
      have c7 := hX 7 _ rfl
      have c8 := hX 8 _ rfl
      have c9 := hX 9 _ rfl
      have c10 := hX 10 _ rfl
      simp only [Nat.add_zero] at c0 c1 c2 c3 c4 c5 c6 c7 c8 c9 c10
      clear hX hrow hx e2
      obtain ⟨y0, y1, y2, y3, y4, y5, y6, y7, y8, y9, y10⟩ := x
      simp only at c0 c1 c2 c3 c4 c5 c6 c7 c8 c9 c10
      go_upto_region 6 with fail
      obtain ⟨W2, hW2⟩ : ∃ X, X = wr.alloc (.cells #[.int .i64 y0, .string y1, .int .i64 y2, .int .i64 y3, .int .i64 y4, .int .i64 y5, .int .i64 y6, .int .i64 y7, .string y8, .int .i64 y9, .int .i64 y10] 43) := ⟨_, rfl⟩
      rw [← hW2]
      have N2 := show W2.heap[wr.heap.size]? = some (.cells #[.int .i64 y0, .string y1, .int .i64 y2, .int .i64 y3, .int .i64 y4, .int .i64 y5, .int .i64 y6, .int .i64 y7, .string y8, .int .i64 y9, .int .i64 y10] 43 (0, 0)) by rw [hW2]; exact heap_at _ _ _ rfl
      have B2 := Lib.hid (bThen HB.out (show Below wr.heap.size wr W2 by rw [hW2]; exact bel_alloc (Below.refl _ _) _))
      have O2 := Lib.hid (own_below HO.out (show Below wr.heap.size wr W2 by rw [hW2]; exact bel_alloc (Below.refl _ _) _))
      clear hW2 c0 c1 c2 c3 c4 c5 c6 c7 c8 c9 c10 hb
      have zb := blk_lt N2
      have x0 := cellsAt N2 0
      have x4 := cellsAt N2 4
      simp at x0 x4
      clear N2
      have hs2 := B2.out.size
      by_cases hi : 12 ≤ i
      · have d12 : decide ((12 : Int) ≤ (i : Int)) = true := decide_eq_true (by omega)
        go_wp2_with fail
        clear x0 x4 zb
        go_loopw [5, 6] (fun vo vn wr => Rw2Rel B w vo vn wr) (fun _ vn _ => B - (intOf vn).toNat)
        case atStart => exact ⟨n, r, es, rfl, hnB, by rw [HK.out]; omega, HC.out, by rw [HK.out]; exact O2.out, B2.out⟩
        case round =>
          obtain ⟨n', r', es', rfl, hnB', hri', hcp', hown', hbel'⟩ := hrel
          have HC' := Lib.hid hcp'
          have HO' := Lib.hid hown'
          have HB' := Lib.hid hbel'
          obtain ⟨Ao', co', rfl⟩ := own_slice hown'
          obtain ⟨k', hk'⟩ : ∃ k, r'.length = k := ⟨_, rfl⟩
          have HK' := Lib.hid hk'
          rw [hk'] at HO' hri' ⊢
          clear hcp' hown' hbel' hk'
          have hs' := HB'.out.size
          by_cases hnb' : n' < B
          · have dn' : decide ((n' : Int) < (B : Int)) = true := decide_eq_true (by omega)
            go_wp2_with (at_builtin; refine wpList_push _ rfl _ _ 32 rfl w.heap.size 43 i0 _ 11 104 Try.underlying32 HI.out HZ0.out HZ1.out HZ2.out rfl (by decide) _ _ _ rfl HO'.out #[.int .i64 4, .string ⟨#[]⟩, .int .i64 0, .int .i64 0, .int .i64 0, .int .i64 ((n' : Int) + 1), .int .i64 0, .int .i64 0, .string ⟨#[]⟩, .int .i64 0, .int .i64 0] 43 rfl rfl (by intro u hu; simp at hu; rcases hu with rfl | rfl | rfl | rfl | rfl | rfl | rfl | rfl | rfl | rfl | rfl <;> rfl) (by unfold maxLen; omega) (by omega) hs' ?_)
            intro v5 W5 hown5 hb5 _
            obtain ⟨A5, c5, rfl⟩ := own_slice hown5
            have HO5 := Lib.hid hown5
            have HB5 := Lib.hid (HB'.out.trans hb5)
            clear hown5 hb5
            go_wp2_with fail
            go_roundw
            case rel => exact ⟨n' + 1, r' ++ [barI ((n' : Int) + 1)], updN es' n' r'.length, by go_num, by omega, by rw [List.length_append, HK'.out]; simp; omega, HC'.out.addBar (barI_ok (by omega) (by omega)), by rw [List.length_append, HK'.out, List.flatMap_append]; exact HO5.out, HB5.out⟩
            case measure => simp [intOf]; omega
          · obtain rfl : n' = B := by omega
            go_wp2_with fail
            go_ret
            exact ⟨_, r', _, rfl, by rw [HK'.out]; exact HO'.out, HC'.out.done (by rw [HK'.out]; omega), HB'.out⟩
      · have d12 : decide ((12 : Int) ≤ (i : Int)) = false := decide_eq_false (by omega)
        by_cases hk4 : y0 = 4
        · subst hk4
          by_cases hnb : n < B
          · have dn : decide ((n : Int) < (B : Int)) = true := decide_eq_true (by omega)
            have hn1 : wrap64 ((n : Int) + 1) = (n : Int) + 1 := by unfold wrap64; omega
            go_wp2_with (at_builtin; refine wpList_push _ rfl _ _ 32 rfl w.heap.size 43 i0 _ 11 104 Try.underlying32 HI.out HZ0.out HZ1.out HZ2.out rfl (by decide) _ _ _ rfl O2.out #[.int .i64 4, .string ⟨#[]⟩, .int .i64 0, .int .i64 0, .int .i64 0, .int .i64 ((n : Int) + 1), .int .i64 0, .int .i64 0, .string ⟨#[]⟩, .int .i64 0, .int .i64 0] 43 rfl rfl (by intro u hu; simp at hu; rcases hu with rfl | rfl | rfl | rfl | rfl | rfl | rfl | rfl | rfl | rfl | rfl <;> rfl) (by unfold maxLen; omega) (by omega) hs2 ?_)
            intro v5 W5 hown5 hb5 _
            obtain ⟨A5, c5, rfl⟩ := own_slice hown5
            have HO5 := Lib.hid hown5
            have HB5 := Lib.hid (B2.out.trans hb5)
            clear hown5 hb5 x0 x4 zb
            go_wp2_with fail
            go_roundw
            case rel => exact ⟨i + 1, n + 1, r ++ [barI ((n : Int) + 1)], updN es n r.length, by go_num, by go_num, by omega, by omega, by omega, by rw [List.length_append, HK.out]; simp; omega, HC.out.addBar (barI_ok (by omega) (by omega)), by rw [List.length_append, HK.out, List.flatMap_append]; exact HO5.out, HB5.out⟩
            case measure => simp [intOf]; omega
          · have dn : decide ((n : Int) < (B : Int)) = false := decide_eq_false (by omega)
            go_wp2_with fail
            go_roundw
            case rel => exact ⟨i + 1, n, r, es, by go_num, rfl, by omega, by omega, hnB, by rw [HK.out]; omega, HC.out, by rw [HK.out]; exact O2.out, B2.out⟩
            case measure => simp [intOf]; omega
        · have d4 : (y0 == 4) = false := beq_eq_false_iff_ne.2 hk4
          by_cases hk2 : y0 = 2
          · subst hk2
            obtain ⟨tt, htt⟩ : ∃ z, min (max y4 0) 1099511627776 = z := ⟨_, rfl⟩
            have ht0 : 0 ≤ tt := by omega
            have ht1 : tt ≤ 1099511627776 := by omega
            go_wp2_with (at_builtin; refine wpList_push _ rfl _ _ 32 rfl w.heap.size 43 i0 _ 11 104 Try.underlying32 HI.out HZ0.out HZ1.out HZ2.out rfl (by decide) _ _ _ rfl O2.out #[.int .i64 2, .string ⟨#[]⟩, .int .i64 0, .int .i64 0, .int .i64 tt, .int .i64 0, .int .i64 0, .int .i64 0, .string ⟨#[]⟩, .int .i64 0, .int .i64 0] 43 rfl rfl (by intro u hu; simp at hu; rcases hu with rfl | rfl | rfl | rfl | rfl | rfl | rfl | rfl | rfl | rfl | rfl <;> rfl) (by unfold maxLen; omega) (by omega) hs2 ?_)
            intro v5 W5 hown5 hb5 _
            obtain ⟨A5, c5, rfl⟩ := own_slice hown5
            have HO5 := Lib.hid hown5
            have HB5 := Lib.hid (B2.out.trans hb5)
            clear hown5 hb5 x0 x4 zb
            go_wp2_with fail
            go_roundw
            case rel => exact ⟨i + 1, n, r ++ [mkI tt], es, by go_num, rfl, by omega, by omega, hnB, by rw [List.length_append, HK.out]; simp; omega, HC.out.addMark (by simp [mkI]) (mkI_ok ht0 ht1), by rw [List.length_append, HK.out, List.flatMap_append]; exact HO5.out, HB5.out⟩
            case measure => simp [intOf]; omega
          · have d2 : (y0 == 2) = false := beq_eq_false_iff_ne.2 hk2
            go_wp2_with fail
            go_roundw
            case rel => exact ⟨i + 1, n, r, es, by go_num, rfl, by omega, by omega, hnB, by rw [HK.out]; omega, HC.out, by rw [HK.out]; exact O2.out, B2.out⟩
            case measure => simp [intOf]; omega
    · obtain rfl : i = m := by omega
      go_wp2_with fail
      go_loopw [5, 6] (fun vo vn wr => Rw2Rel B w vo vn wr) (fun _ vn _ => B - (intOf vn).toNat)
      case atStart => exact ⟨n, r, es, rfl, hnB, by rw [HK.out]; omega, HC.out, by rw [HK.out]; exact HO.out, HB.out⟩
      case round =>
        obtain ⟨n', r', es', rfl, hnB', hri', hcp', hown', hbel'⟩ := hrel
        have HC' := Lib.hid hcp'
        have HO' := Lib.hid hown'
        have HB' := Lib.hid hbel'
        obtain ⟨Ao', co', rfl⟩ := own_slice hown'
        obtain ⟨k', hk'⟩ : ∃ k, r'.length = k := ⟨_, rfl⟩
        have HK' := Lib.hid hk'
        rw [hk'] at HO' hri' ⊢
        clear hcp' hown' hbel' hk'
        have hs' := HB'.out.size
        by_cases hnb' : n' < B
        · have dn' : decide ((n' : Int) < (B : Int)) = true := decide_eq_true (by omega)
          go_wp2_with (at_builtin; refine wpList_push _ rfl _ _ 32 rfl w.heap.size 43 i0 _ 11 104 Try.underlying32 HI.out HZ0.out HZ1.out HZ2.out rfl (by decide) _ _ _ rfl HO'.out #[.int .i64 4, .string ⟨#[]⟩, .int .i64 0, .int .i64 0, .int .i64 0, .int .i64 ((n' : Int) + 1), .int .i64 0, .int .i64 0, .string ⟨#[]⟩, .int .i64 0, .int .i64 0] 43 rfl rfl (by intro u hu; simp at hu; rcases hu with rfl | rfl | rfl | rfl | rfl | rfl | rfl | rfl | rfl | rfl | rfl <;> rfl) (by unfold maxLen; omega) (by omega) hs' ?_)
          intro v5 W5 hown5 hb5 _
          obtain ⟨A5, c5, rfl⟩ := own_slice hown5
          have HO5 := Lib.hid hown5
          have HB5 := Lib.hid (HB'.out.trans hb5)
          clear hown5 hb5
          go_wp2_with fail
          go_roundw
          case rel => exact ⟨n' + 1, r' ++ [barI ((n' : Int) + 1)], updN es' n' r'.length, by go_num, by omega, by rw [List.length_append, HK'.out]; simp; omega, HC'.out.addBar (barI_ok (by omega) (by omega)), by rw [List.length_append, HK'.out, List.flatMap_append]; exact HO5.out, HB5.out⟩
          case measure => simp [intOf]; omega
        · obtain rfl : n' = B := by omega
          go_wp2_with fail
          go_ret
          exact ⟨_, r', _, rfl, by rw [HK'.out]; exact HO'.out, HC'.out.done (by rw [HK'.out]; omega), HB'.out⟩
end Go.Proofs.Ytenpgkkefielfaa
