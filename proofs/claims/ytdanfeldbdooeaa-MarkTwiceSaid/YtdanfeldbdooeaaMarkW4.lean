/-
  WALKS of layer 10: Like, alive; the law MarkMakes.
-/
import Derived.Test.YtdanfeldbdooeaaMarkW3
set_option linter.unusedVariables false
set_option linter.unusedSimpArgs false
namespace Go.Proofs.Ytdanfeldbdooeaa
open Go.RowKit

theorem eqI (W : World) (d : Nat) (a b : Int) : (Op.equalIn (d + 1) 3 (.int .i64 a) (.int .i64 b)).run Try.prog W = .ok (a == b) W := run_equalIn_int W d 3 .i64 .i64 a b Try.underlying3
theorem eqL (W : World) (d : Nat) (a b : Int) : (Op.equalIn (d + 1) 2 (.int .i64 a) (.int .i64 b)).run Try.prog W = .ok (a == b) W := run_equalIn_int W d 2 .i64 .i64 a b Try.underlying2
theorem eqB (W : World) (d : Nat) (a b : Bool) : (Op.equalIn (d + 1) 4 (.bool a) (.bool b)).run Try.prog W = .ok (a == b) W := run_equalIn_bool W d 4 a b Try.underlying4
theorem eqInp (W : World) (a b : Inp) : (Op.equalIn 10000 45 (.agg #[.int .i64 a.mark, .bool a.idle]) (.agg #[.int .i64 b.mark, .bool b.idle])).run Try.prog W = .ok (a.mark == b.mark && a.idle == b.idle) W := by
  have hS : Try.prog.underlying 45 = some (.struct (Try.prog.fieldsOf 45)) := by kernel_rfl
  have hp : Try.prog.stoodInHeld 45 = false := by kernel_rfl
  have hI : ∀ W (a b : Int), (Op.equalIn 9999 2 (.int .i64 a) (.int .i64 b)).run Try.prog W = .ok (a == b) W := fun W => eqL W 9998
  have hB : ∀ W (a b : Bool), (Op.equalIn 9999 4 (.bool a) (.bool b)).run Try.prog W = .ok (a == b) W := fun W => eqB W 9998
  rw [show (10000 : Nat) = 9999 + 1 from rfl, run_equalIn_agg W _ 45 _ _ hS hp]
  simp only [Program.fieldsOf, Try.underlying45]
  by_cases e1 : a.mark = b.mark <;> by_cases e2 : a.idle = b.idle <;> simp [Op.eqFields, go_sem, hI, hB, e1, e2]
theorem eqHld (W : World) (a b : Hld) : (Op.equalIn 10000 47 (.agg #[.int .i64 a.no, .int .i64 a.at_]) (.agg #[.int .i64 b.no, .int .i64 b.at_])).run Try.prog W = .ok (a.no == b.no && a.at_ == b.at_) W := by
  have hS : Try.prog.underlying 47 = some (.struct (Try.prog.fieldsOf 47)) := by kernel_rfl
  have hp : Try.prog.stoodInHeld 47 = false := by kernel_rfl
  have hI : ∀ W (a b : Int), (Op.equalIn 9999 2 (.int .i64 a) (.int .i64 b)).run Try.prog W = .ok (a == b) W := fun W => eqL W 9998
  have hJ : ∀ W (a b : Int), (Op.equalIn 9999 3 (.int .i64 a) (.int .i64 b)).run Try.prog W = .ok (a == b) W := fun W => eqI W 9998
  rw [show (10000 : Nat) = 9999 + 1 from rfl, run_equalIn_agg W _ 47 _ _ hS hp]
  simp only [Program.fieldsOf, Try.underlying47]
  by_cases e1 : a.no = b.no <;> by_cases e2 : a.at_ = b.at_ <;> simp [Op.eqFields, go_sem, hI, hJ, e1, e2]
def LkRel (n : Nat) (W2 : World) (i : Value) (wr : World) : Prop := ∃ k m : Nat, k ≤ n ∧ i = .int .i64 k ∧ wr = W2.drewN m
set_option maxHeartbeats 2000000 in
set_option maxRecDepth 100000 in
theorem likeM_same (li : List Inp) (lh : List Hld) (o : Int) (vi vh ui uh : Value) (w : World) (h1 : Row Inp.cs 2 w vi li) (h2 : Row Hld.cs 2 w vh lh) (h3 : Row Inp.cs 2 w ui li) (h4 : Row Hld.cs 2 w uh lh) (l1 : li.length ≤ 1000000) (l2 : lh.length ≤ 1000000) :
    Calls Try.prog 16 #[.agg #[vi, vh, .int .i64 o], .agg #[ui, uh, .int .i64 o]] w fun e w' => e = .returned (.bool true) ∧ Below w.heap.size w w' := by
  have H1 := Lib.hid h1
  have H2 := Lib.hid h2
  have H3 := Lib.hid h3
  have H4 := Lib.hid h4
  obtain ⟨A1, q1, rfl, b1, -⟩ := h1
  obtain ⟨A2, q2, rfl, b2, -⟩ := h2
  obtain ⟨A3, q3, rfl, b3, -⟩ := h3
  obtain ⟨A4, q4, rfl, b4, -⟩ := h4
  obtain ⟨n, hn⟩ : ∃ n, li.length = n := ⟨_, rfl⟩
  obtain ⟨m, hm⟩ : ∃ m, lh.length = m := ⟨_, rfl⟩
  rw [hn] at H1 H3 l1 b1 b3 ⊢
  rw [hm] at H2 H4 l2 b2 b4 ⊢
  have Hn := Lib.hid hn
  have Hm := Lib.hid hm
  clear hn hm
  go_enter Try.func16, Try.ntmps16
  go_wp2_with fail
  obtain ⟨W2, hW2⟩ : ∃ W2, W2 = (w.alloc (.cells #[.slice A1 n q1, .slice A2 m q2, .int .i64 o] 25)).alloc (.cells #[.slice A3 n q3, .slice A4 m q4, .int .i64 o] 25) := ⟨_, rfl⟩
  rw [← hW2]
  have K1 := Lib.hid (show W2.heap[w.heap.size]? = some (.cells #[.slice A1 n q1, .slice A2 m q2, .int .i64 o] 25 (0, 0)) by rw [hW2]; exact (Below.heap_alloc _ _ _ (by simp)).trans (heap_alloc_new w _))
  have K2 := Lib.hid (show W2.heap[w.heap.size + 1]? = some (.cells #[.slice A3 n q3, .slice A4 m q4, .int .i64 o] 25 (0, 0)) by rw [hW2]; exact heap_at _ _ _ (by simp))
  have R1 := Lib.hid (show Row Inp.cs 2 W2 (.slice A1 n q1) li by rw [hW2]; exact (H1.out.alloc _).alloc _)
  have R2 := Lib.hid (show Row Hld.cs 2 W2 (.slice A2 m q2) lh by rw [hW2]; exact (H2.out.alloc _).alloc _)
  have R3 := Lib.hid (show Row Inp.cs 2 W2 (.slice A3 n q3) li by rw [hW2]; exact (H3.out.alloc _).alloc _)
  have R4 := Lib.hid (show Row Hld.cs 2 W2 (.slice A4 m q4) lh by rw [hW2]; exact (H4.out.alloc _).alloc _)
  have BW := Lib.hid (show Below w.heap.size w W2 by rw [hW2]; exact bel_alloc (bel_alloc (Below.refl _ _) _) _)
  have c0 := cellsAt K1.out 0
  have c1 := cellsAt K1.out 1
  have c2 := cellsAt K1.out 2
  have d0 := cellsAt K2.out 0
  have d1 := cellsAt K2.out 1
  have d2 := cellsAt K2.out 2
  simp at c0 c1 c2 d0 d1 d2
  clear hW2 H1 H2 H3 H4
  go_wp2_with fail
  go_loopw [33] (fun i wr => LkRel n W2 i wr) (fun i _ => n - (intOf i).toNat)
  case atStart => exact ⟨0, 0, Nat.zero_le _, rfl, rfl⟩
  case round =>
    obtain ⟨k, j, hk, rfl, rfl⟩ := hrel
    by_cases hlt : k < n
    · obtain ⟨x, hi⟩ : ∃ x, li[k]? = some x := ⟨_, List.getElem?_eq_getElem (by rw [Hn.out]; exact hlt)⟩
      obtain ⟨a1, o1, p1, hv, -, -, hX⟩ := R1.out.at_ hi
      injection hv with hv hv2 hv3
      subst hv
      clear hv2 hv3
      obtain ⟨a3, o3, p3, hv, -, -, hY⟩ := R3.out.at_ hi
      injection hv with hv hv2 hv3
      subst hv
      clear hv2 hv3
      have e0 := hX 0 _ rfl
      have e1 := hX 1 _ rfl
      have g0 := hY 0 _ rfl
      have g1 := hY 1 _ rfl
      have hE := fun W => eqInp W x x
      simp only [BEq.rfl, Bool.and_self] at hE
      clear hX hY hi
      obtain ⟨xm, xi⟩ := x
      simp only [Nat.add_zero] at e0 e1 g0 g1 hE
      go_wp2_with fail
      go_quiet (fail)
      go_wp2_with fail
      go_roundw
      case rel => exact ⟨k + 1, _, by omega, by go_num, rfl⟩
      case measure => simp [intOf]; omega
    · have hkn : k = n := by omega
      subst hkn
      go_wp2_with fail
      go_loopw [51] (fun i wr => LkRel m W2 i wr) (fun i _ => m - (intOf i).toNat)
      case atStart => exact ⟨0, _, Nat.zero_le _, rfl, rfl⟩
      case round =>
        obtain ⟨k2, j2, hk2, rfl, rfl⟩ := hrel
        by_cases hlt2 : k2 < m
        · obtain ⟨x, hi⟩ : ∃ x, lh[k2]? = some x := ⟨_, List.getElem?_eq_getElem (by rw [Hm.out]; exact hlt2)⟩
          obtain ⟨a1, o1, p1, hv, -, -, hX⟩ := R2.out.at_ hi
          injection hv with hv hv2 hv3
          subst hv
          clear hv2 hv3
          obtain ⟨a3, o3, p3, hv, -, -, hY⟩ := R4.out.at_ hi
          injection hv with hv hv2 hv3
          subst hv
          clear hv2 hv3
          have e0 := hX 0 _ rfl
          have e1 := hX 1 _ rfl
          have g0 := hY 0 _ rfl
          have g1 := hY 1 _ rfl
          have hE := fun W => eqHld W x x
          simp only [BEq.rfl, Bool.and_self] at hE
          clear hX hY hi
          obtain ⟨xm, xi⟩ := x
          simp only [Nat.add_zero] at e0 e1 g0 g1 hE
          go_wp2_with fail
          go_quiet (fail)
          go_wp2_with fail
          go_roundw
          case rel => exact ⟨k2 + 1, _, by omega, by go_num, rfl⟩
          case measure => simp [intOf]; omega
        · go_wp2_with fail
          go_ret
          exact ⟨rfl, bDrewN BW.out⟩
set_option maxHeartbeats 1000000 in
set_option maxRecDepth 100000 in
theorem malive_any (w : World) : Calls Try.prog 15 #[] w fun e w' => e = .returned (.bool true) ∧ Below w.heap.size w w' := by
  have HS := Lib.hid (fun W => mnew_yes 1 1 rfl W (by decide) (by decide))
  go_enter Try.func15, Try.ntmps15
  go_wp2_with fail
  refine (HS.out _).mono ?_
  rintro e w' ⟨v, rfl, ⟨A, c, rfl, _, _⟩, hb⟩
  rw [show (List.replicate 1 inZ).length = 1 from rfl]
  have HB := Lib.hid hb
  clear hb
  go_wp2_with fail
  go_ret
  exact ⟨rfl, bel_alloc HB.out _⟩
end Go.Proofs.Ytdanfeldbdooeaa
