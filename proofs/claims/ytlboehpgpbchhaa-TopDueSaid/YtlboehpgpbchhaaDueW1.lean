/-
  WALKS of the law TopDue: which timer stands ahead.
-/
import Derived.Test.YtlboehpgpbchhaaTopW6
import Derived.Test.YtlboehpgpbchhaaRowsPush
import Derived.Deep.RegionHeldLaw
set_option linter.unusedVariables false
set_option linter.unusedSimpArgs false
namespace Go.Proofs.Ytlboehpgpbchhaa
open Go.RowKit

structure Tm where
  a : Int
  s : ByteArray
def Tm.cs (t : Tm) : List Value := [.int .i64 t.a, .string t.s]
def Tm.val (t : Tm) : Value := .agg #[.int .i64 t.a, .string t.s]
theorem Tm.cs_len (t : Tm) : t.cs.length = 2 := rfl
def orJ (a b : Int) : Int := if a ≠ 0 then a else b
def cmpT (x y : Tm) : Int := orJ (cmpI x.a y.a) (cmpS x.s y.s)
def ltT (x y : Tm) : Bool := decide (cmpT x y < 0)
theorem cmpT_lt {x y : Tm} (h : x.a < y.a) : cmpT x y = -1 := by unfold cmpT orJ cmpI; rw [if_pos h]; simp
theorem cmpT_gt {x y : Tm} (h : y.a < x.a) : cmpT x y = 1 := by
  have e : cmpI x.a y.a = 1 := by unfold cmpI; rw [if_neg (by omega), if_pos h]
  unfold cmpT orJ
  rw [e]
  rfl
theorem ltT_yes {x y : Tm} (h : ltT x y = true) : x.a ≤ y.a := by
  by_cases h1 : y.a < x.a
  · have h2 := of_decide_eq_true h
    rw [cmpT_gt h1] at h2
    omega
  · omega
theorem ltT_no {x y : Tm} (h : ltT x y = false) : y.a ≤ x.a := by
  by_cases h1 : x.a < y.a
  · have h2 := of_decide_eq_false h
    rw [cmpT_lt h1] at h2
    omega
  · omega
def OjRel (a b : Int) (i : Value) : Prop := ∃ k : Nat, k ≤ 2 ∧ i = .int .i64 k ∧ (0 < k → a = 0) ∧ (1 < k → b = 0)
theorem orj_any (a b : Int) (b0 : Nat) (T : TypeId) (w : World) (h : w.heap[b0]? = some (.cells #[.int .i64 a, .int .i64 b] T (0, 0))) : Calls Try.prog 79 #[.slice (some ⟨b0, 0, none⟩) 2 2] w fun e w' => e = .returned (.int .i64 (orJ a b)) ∧ w' = w := by
  have z := blk_lt h
  have x0 := cellsAt h 0
  have x1 := cellsAt h 1
  simp at x0 x1
  go_enter Try.func79, Try.ntmps79
  go_wp2_with fail
  go_loop [8] (fun i => OjRel a b i) (fun i => 2 - (intOf i).toNat)
  case atStart => exact ⟨0, by omega, rfl, by simp, by simp⟩
  case round =>
    obtain ⟨k, hk, rfl, h0, h1⟩ := hrel
    have H0 := Lib.hid h0
    have H1 := Lib.hid h1
    clear h0 h1
    obtain rfl | rfl | rfl : k = 0 ∨ k = 1 ∨ k = 2 := by omega
    · by_cases h : a = 0
      · subst h
        go_wp2_with fail
        go_round
        case rel => exact ⟨1, by omega, by go_num, fun _ => rfl, by simp⟩
        case measure => simp [intOf]
      · have d1 : (a == 0) = false := by simpa using h
        have d2 : (a != 0) = true := by simpa using h
        go_wp2_with fail
        go_ret
        exact ⟨congrArg (fun b => Ending.returned (Value.int .i64 b)) (by unfold orJ; rw [if_pos h]), rfl⟩
    · have ha := H0.out (by omega)
      subst ha
      by_cases h : b = 0
      · subst h
        go_wp2_with fail
        go_round
        case rel => exact ⟨2, by omega, by go_num, fun _ => rfl, fun _ => rfl⟩
        case measure => simp [intOf]
      · have d1 : (b == 0) = false := by simpa using h
        have d2 : (b != 0) = true := by simpa using h
        go_wp2_with fail
        go_ret
        exact ⟨congrArg (fun b => Ending.returned (Value.int .i64 b)) (by unfold orJ; simp), rfl⟩
    · have ha := H0.out (by omega)
      have hb := H1.out (by omega)
      subst ha hb
      go_wp2_with fail
      go_ret
      exact ⟨congrArg (fun b => Ending.returned (Value.int .i64 b)) (by unfold orJ; simp), rfl⟩
set_option maxRecDepth 100000 in
theorem cmpt_any (x y : Tm) (w : World) : Calls Try.prog 150 #[x.val, y.val] w fun e w' => e = .returned (.int .i64 (cmpT x y)) ∧ Below w.heap.size w w' := by
  obtain ⟨a, s⟩ := x
  obtain ⟨b, t⟩ := y
  have HI := Lib.hid (fun a b w => cmpi_any a b w)
  have HS := Lib.hid (fun a b w => cmps_any a b w)
  unfold Tm.val
  simp only
  go_enter Try.func150, Try.ntmps150
  go_wp2_with fail
  obtain ⟨W2, hW2⟩ : ∃ X, X = ((w.alloc (.cells #[.int .i64 a, .string s] 62)).alloc (.cells #[.int .i64 b, .string t] 62)) := ⟨_, rfl⟩
  rw [← hW2]
  have h1 : W2.heap[w.heap.size]? = some (.cells #[.int .i64 a, .string s] 62 (0, 0)) := by rw [hW2]; exact heap_below (heap_at w _ _ rfl) (bel_alloc (Below.refl _ _) _)
  have h2 : W2.heap[w.heap.size + 1]? = some (.cells #[.int .i64 b, .string t] 62 (0, 0)) := by rw [hW2]; exact heap_at _ _ _ (by simp)
  have HB := Lib.hid (show Below w.heap.size w W2 by rw [hW2]; exact bel_alloc (bel_alloc (Below.refl _ _) _) _)
  clear hW2
  have z1 := blk_lt h1
  have z2 := blk_lt h2
  have x0 := cellsAt h1 0
  have x1 := cellsAt h1 1
  have y0 := cellsAt h2 0
  have y1 := cellsAt h2 1
  simp at x0 x1 y0 y1
  clear h1 h2
  go_still_tail 10, (by kernel_rfl)
  still_call (HI.out a b _)
  repeat still_step
  still_call (HS.out s t _)
  repeat still_step
  refine wpStill_nil ?_
  change wpList _ _ _ _ _ W2.drew
  have HD := Lib.hid (show Below w.heap.size w W2.drew from Below.drew HB.out)
  generalize W2.drew = W3 at HD
  clear HB z1 z2 x0 x1 y0 y1
  go_wp2_with fail
  refine (orj_any _ _ W3.heap.size _ _ (heap_at _ _ _ rfl)).mono ?_
  rintro e w' ⟨rfl, rfl⟩
  go_wp2_with fail
  go_ret
  exact ⟨rfl, bel_alloc HD.out _⟩
theorem cmpT_bd (x y : Tm) : -1 ≤ cmpT x y ∧ cmpT x y ≤ 1 := by
  unfold cmpT orJ
  have := cmpI_bd x.a y.a
  have := cmpS_bd x.s y.s
  split <;> omega
set_option maxRecDepth 100000 in
theorem tless_any (l : List Tm) (v : Value) (w : World) (hv : Row Tm.cs 2 w v l) (i j : Nat) (hi : i < l.length) (hj : j < l.length) (hm : l.length ≤ 1000000) :
    Calls Try.prog 148 #[v, .int .i64 i, .int .i64 j] w fun e w' => e = .returned (.bool (ltT l[i] l[j])) ∧ Below w.heap.size w w' := by
  have hii : l[i]? = some l[i] := List.getElem?_eq_getElem hi
  have hjj : l[j]? = some l[j] := List.getElem?_eq_getElem hj
  obtain ⟨A, c, hv1, hc, hx⟩ := hv
  obtain ⟨b, o, rfl, hb, hX⟩ := hx (by omega)
  have c0 := hX i _ 0 _ hii rfl
  have c1 := hX i _ 1 _ hii rfl
  have d0 := hX j _ 0 _ hjj rfl
  have d1 := hX j _ 1 _ hjj rfl
  obtain ⟨⟨a1, s1⟩, e1⟩ : ∃ x, l[i] = x := ⟨_, rfl⟩
  obtain ⟨⟨a2, s2⟩, e2⟩ : ∃ x, l[j] = x := ⟨_, rfl⟩
  rw [e1] at c0 c1 ⊢
  rw [e2] at d0 d1 ⊢
  have HC := Lib.hid (fun w => cmpt_any ⟨a1, s1⟩ ⟨a2, s2⟩ w)
  unfold Tm.val at HC
  have HBD := Lib.hid (cmpT_bd ⟨a1, s1⟩ ⟨a2, s2⟩)
  simp only [Nat.add_zero] at c0 d0
  subst hv1
  obtain ⟨n, hn⟩ : ∃ n, l.length = n := ⟨_, rfl⟩
  rw [hn] at hi hj hc hm ⊢
  clear hX hx hii hjj e1 e2 hn
  go_enter Try.func148, Try.ntmps148
  go_wp2_with fail
  go_still_tail 8, (by kernel_rfl)
  repeat still_step
  change wpList _ _ _ _ _ w.drew
  go_wp2_with fail
  refine (HC.out _).mono ?_
  rintro e w2 ⟨rfl, hb⟩
  go_wp2_with fail
  go_ret
  exact ⟨rfl, bUndrew hb⟩
end Go.Proofs.Ytlboehpgpbchhaa
