/-
  WALKS of layer 17: with, of the program.
-/
import Derived.Test.YtlboehpgpbchhaaStoreW4
import Derived.Test.YtlboehpgpbchhaaDelCell
set_option linter.unusedVariables false
set_option linter.unusedSimpArgs false
namespace Go.Proofs.Ytlboehpgpbchhaa
open Go.RowKit

theorem flatR_take {α : Type} {enc : α → List Value} {k : Nat} (hk : ∀ x, (enc x).length = k) (l : List α) (i : Nat) : (l.flatMap enc).take (i * k) = (l.take i).flatMap enc := by
  induction l generalizing i with
  | nil => simp
  | cons x l ih =>
    cases i with
    | zero => simp
    | succ i =>
      rw [List.flatMap_cons, List.take_succ_cons, List.flatMap_cons, ← ih i]
      rw [show (i + 1) * k = (enc x).length + i * k by rw [hk, Nat.succ_mul]; omega, List.take_length_add_append]
theorem flatR_drop {α : Type} {enc : α → List Value} {k : Nat} (hk : ∀ x, (enc x).length = k) (l : List α) (i : Nat) : (l.flatMap enc).drop (i * k) = (l.drop i).flatMap enc := by
  induction l generalizing i with
  | nil => simp
  | cons x l ih =>
    cases i with
    | zero => simp
    | succ i =>
      rw [List.flatMap_cons, List.drop_succ_cons, ← ih i]
      rw [show (i + 1) * k = (enc x).length + i * k by rw [hk, Nat.succ_mul]; omega, List.drop_length_add_append]
/-- A row of cells of one's own. -/
def OwnC (base : Nat) (w : World) (v : Value) (l : List Cl) : Prop := w.ownsRow base 43 2 v l.length (l.flatMap Cl.cs)
def WithTo (base : Nat) (l : List Cl) (w : World) (e : Ending) (w' : World) : Prop := ∃ v, e = .returned v ∧ OwnC base w' v l ∧ Below base w w'
theorem own_any {w : World} {base : Nat} {v : Value} {l : List Cl} (h : OwnC base w v l) : Row Cl.cs 2 w v l := Row.of_own Cl.cs_len h rfl
set_option maxRecDepth 100000 in
set_option maxHeartbeats 4000000 in
theorem with_any (base : Nat) (l : List Cl) (x : Cl) (v : Value) (w : World) (hown : OwnC base w v l) (hbase : base ≤ w.heap.size) (hl : l.length ≤ 900000) (hs : Rise l) :
    Calls Try.prog 38 #[v, .agg #[.string x.n, .string x.b]] w (WithTo base (withL l x) w) := by
  have HF := Lib.hid (fun W h => find_any l x.n v W h (by omega) hs)
  have HO := Lib.hid hown
  have HS := Lib.hid hs
  obtain ⟨n, hn⟩ : ∃ n, l.length = n := ⟨_, rfl⟩
  have Hn := Lib.hid hn
  obtain ⟨A, c, rfl⟩ := own_slice hown
  rw [hn] at HF HO hl ⊢
  unfold WithTo
  obtain ⟨xn, xb⟩ := x
  have HWX := Lib.hid (fun i h1 h2 h3 => @with_eq l ⟨xn, xb⟩ i h1 h2 h3)
  obtain ⟨L, hL⟩ : ∃ L, withL l ⟨xn, xb⟩ = L := ⟨_, rfl⟩
  rw [hL]
  have HL := Lib.hid hL
  simp only at HF ⊢
  clear hown hs hn hL
  go_enter Try.func38, Try.ntmps38
  go_wp2_with fail
  have HA0 := bel_alloc (Below.refl w.heap.size w) (.cells #[.string xn, .string xb] 43)
  refine (HF.out _ ((own_any HO.out).below HA0)).mono ?_
  rintro e w1 ⟨i, hi, rfl, hat, hb1⟩
  have hx := heap_below (heap_at w (.cells #[.string xn, .string xb] 43) _ rfl) hb1
  have BX := Lib.hid hx
  have zx := blk_lt hx
  have x0 := cellsAt hx 0
  have x1 := cellsAt hx 1
  have fx := frozAt hx
  simp at x0 x1
  have hb2 := bThen HA0 hb1
  have O1 := Lib.hid (own_below HO.out hb2)
  have B1 := Lib.hid (hb2.mono hbase)
  clear hx HA0 hb1 hb2 HO HF
  have HAT := Lib.hid hat
  clear hat
  obtain ⟨f, hf⟩ : ∃ f, fndS l i xn = f := ⟨_, rfl⟩
  have HEQ := Lib.hid (HWX.out _ HS.out HAT.out hi)
  rw [Hn.out] at hi
  have HFD := Lib.hid hf
  rw [hf]
  clear hf
  obtain ⟨z, hz⟩ : ∃ z, noB xb = z := ⟨_, rfl⟩
  have HZ := Lib.hid hz
  unfold noB at hz
  have hbz : base ≤ w1.heap.size := by have := B1.out.size; omega
  cases f with
  | true =>
    have hin : i < n := by
      rcases Nat.lt_or_ge i n with h | h
      · exact h
      · have := HFD.out
        unfold fndS at this
        rw [List.getElem?_eq_none (by rw [Hn.out]; exact h)] at this
        cases this
    obtain ⟨m, hm⟩ : ∃ m, n = m + 1 := ⟨n - 1, by omega⟩
    have HM := Lib.hid hm
    have hwi : wrap64 ((i : Int) + 1) = (i : Int) + 1 := IntWalk.wrap64_in _ (by omega)
    have hwj : IntKind.i64.wrap ((i : Int) + 1) = (i : Int) + 1 := by rw [IntKind.wrap_i64]; omega
    cases z with
    | true =>
      have hd : Hid (Calls Try.prog 58 #[.slice A n c, .int .i64 i, .int .i64 ((i : Int) + 1)] w1 (lcDelTo base m i (.slice A n c) (l.flatMap Cl.cs) w1)) := Lib.hid (lcdelete base m i _ _ w1 (by have h := O1.out; unfold OwnC at h; rw [Hn.out, HM.out] at h; rw [HM.out]; exact h) (by omega) Cl.cs_one)
      clear hm
      go_wp2_with fail
      refine hd.out.mono ?_
      rintro e w2 ⟨v2, rfl, ho2, hg2⟩
      have HO2 := Lib.hid ho2
      have B2 := Lib.hid (B1.out.grown hg2 hbz (fun q hq => (O1.out.lt _ hq).1))
      clear ho2 hg2
      go_wp2_with fail
      go_ret
      refine ⟨_, rfl, ?_, B2.out⟩
      have h := HO2.out
      rw [flatR_take Cl.cs_len, flatR_drop Cl.cs_len, ← List.flatMap_append] at h
      have e1 : L = l.take i ++ l.drop (i + 1) := by
        rw [← HL.out, HEQ.out, if_pos HZ.out, if_pos HFD.out, List.nil_append]
      unfold OwnC
      rw [e1]
      have e2 : (l.take i ++ l.drop (i + 1)).length = m := by
        rw [List.length_append, List.length_take, List.length_drop, Hn.out]; have := HM.out; omega
      rw [e2]
      exact h
    | false =>
      have hA : ∃ g, A = some ⟨g, 0, none⟩ ∧ base ≤ g ∧ g < w1.heap.size := by
        have h := O1.out
        unfold OwnC at h
        rw [Hn.out] at h
        obtain ⟨g, cap, e, h1, h2, -⟩ := own_form h (by omega)
        injection e with e1 e2 e3
        exact ⟨g, e1, h1, h2⟩
      obtain ⟨g, rfl, hg1, hg2⟩ := hA
      have ho := O1.out
      unfold OwnC at ho
      rw [Hn.out] at ho
      have hq0 := ho.cellAt (i * 2) (by omega)
      have hq1 := ho.cellAt (i * 2 + 1) (by omega)
      obtain ⟨y, hy⟩ : ∃ y, l[i]? = some y := ⟨_, List.getElem?_eq_getElem (by rw [Hn.out]; omega)⟩
      have HY := Lib.hid hy
      rw [show i * 2 = i * 2 + 0 by omega, flat_at Cl.cs_len hy rfl] at hq0
      rw [flat_at Cl.cs_len hy rfl] at hq1
      simp only [Nat.add_zero] at hq0
      have hf0 := fun j => ho.frozenAt j
      have HOO := Lib.hid ho
      have HOX := Lib.hid (((ho.stored (i * 2 + 0) (.string xn)).1.stored (i * 2 + 1) (.string xb)).1)
      have HBB := Lib.hid ((B1.out.setCell (p := ⟨g, i * 2 + 0, none⟩) hg1 (.string xn)).setCell (p := ⟨g, i * 2 + 1, none⟩) hg1 (.string xb))
      clear hm ho hy
      go_wp2_with fail
      go_ret
      refine ⟨_, rfl, ?_, HBB.out⟩
      have h := HOX.out
      rw [flat_set Cl.cs_len (x' := ⟨xn, y.b⟩) HY.out (by decide) rfl, flat_set Cl.cs_len (l := l.set i ⟨xn, y.b⟩) (i := i) (x := ⟨xn, y.b⟩) (x' := ⟨xn, xb⟩) (by rw [List.getElem?_set_self (by rw [Hn.out]; exact hin)]) (by decide) rfl, List.set_set] at h
      have e1 : L = l.set i ⟨xn, xb⟩ := by
        rw [← HL.out, HEQ.out, if_neg (by rw [HZ.out]; simp), if_pos HFD.out, List.set_eq_take_append_cons_drop, if_pos (by rw [Hn.out]; exact hin)]
        rfl
      unfold OwnC
      rw [e1, List.length_set, Hn.out]
      exact h
  | false =>
    cases z with
    | true =>
      go_wp2_with fail
      go_ret
      refine ⟨_, rfl, ?_, B1.out⟩
      have e1 : L = l := by
        rw [← HL.out, HEQ.out, if_pos HZ.out, if_neg (by rw [HFD.out]; simp), List.nil_append, List.take_append_drop]
      rw [e1]
      exact O1.out
    | false =>
      have hd : ∀ (W : World) (vb : Nat), W.heap[vb]? = some (.cells #[.string xn, .string xb] 43 (0, 0)) → Below w1.heap.size w1 W → w1.heap.size ≤ vb → Calls Try.prog 59 #[.slice A n c, .int .i64 i, .slice (some ⟨vb, 0, none⟩) 1 1] W (lcInsTo base n i (.slice A n c) (l.flatMap Cl.cs) [.string xn, .string xb] W) := fun W vb h1 hb h2 =>
        lcinsert base n i vb _ _ [.string xn, .string xb] 43 W (own_below (by have h := O1.out; unfold OwnC at h; rw [Hn.out] at h; exact h) hb) (by have := hb.size; omega) (by omega) hi (fun e => by
          have h := O1.out
          unfold OwnC at h
          rw [Hn.out] at h
          have := (h.lt vb e).2
          omega) h1 rfl Cl.cs_one (by intro u hu; simp at hu; rcases hu with rfl | rfl <;> rfl)
      have HD := Lib.hid hd
      clear hd
      go_wp2_with fail
      refine (HD.out _ _ (heap_at w1 _ _ rfl) (bel_alloc (Below.refl _ _) _) (Nat.le_refl _)).mono ?_
      rintro e w2 ⟨v2, rfl, ho2, hg2⟩
      have HO2 := Lib.hid ho2
      have hbA : Below base w (w1.alloc (.cells #[.string xn, .string xb] 43)) := B1.out.alloc hbz _
      have B2 := Lib.hid (hbA.grown hg2 (by simp; omega) (fun q hq => (O1.out.lt _ hq).1))
      clear ho2 hg2 hbA
      go_wp2_with fail
      go_ret
      refine ⟨_, rfl, ?_, B2.out⟩
      have h := HO2.out
      rw [flatR_take Cl.cs_len, flatR_drop Cl.cs_len] at h
      have e1 : L = l.take i ++ ([⟨xn, xb⟩] ++ l.drop i) := by
        rw [← HL.out, HEQ.out, if_neg (by rw [HZ.out]; simp), if_neg (by rw [HFD.out]; simp)]
      unfold OwnC
      rw [e1, List.flatMap_append, List.flatMap_append]
      have e2 : (l.take i ++ ([(⟨xn, xb⟩ : Cl)] ++ l.drop i)).length = n + 1 := by
        simp only [List.length_append, List.length_take, List.length_drop, Hn.out, List.length_singleton]; omega
      rw [e2]
      exact h
end Go.Proofs.Ytlboehpgpbchhaa
