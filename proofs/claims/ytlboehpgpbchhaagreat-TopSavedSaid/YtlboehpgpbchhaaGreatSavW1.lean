/-
  WALKS of the top laws: two rows of the same panes are alike.
-/
import Derived.Test.YtlboehpgpbchhaaGreatGrpW2
set_option linter.unusedVariables false
set_option linter.unusedSimpArgs false
namespace Go.Proofs.YtlboehpgpbchhaaGreat
open Go.RowKit

theorem peqS (W : World) (d : Nat) (a : ByteArray) : (Op.equalIn (d + 1) 9 (.string a) (.string a)).run Tryz.prog W = .ok true W := by
  have := run_equalIn_string (P := Tryz.prog) W d 9 a a Tryz.underlying9
  simpa using this
theorem peqL (W : World) (d : Nat) (a : Int) : (Op.equalIn (d + 1) 2 (.int .i64 a) (.int .i64 a)).run Tryz.prog W = .ok true W := by
  have := run_equalIn_int (P := Tryz.prog) W d 2 .i64 .i64 a a Tryz.underlying2
  simpa using this
theorem peqW (W : World) (d : Nat) (a b : Int) : (Op.equalIn (d + 2) 35 (.agg #[.int .i64 a, .int .i64 b]) (.agg #[.int .i64 a, .int .i64 b])).run Tryz.prog W = .ok true W := by
  have hS : Tryz.prog.underlying 35 = some (.struct (Tryz.prog.fieldsOf 35)) := by kernel_rfl
  have hp : Tryz.prog.stoodInHeld 35 = false := by kernel_rfl
  rw [run_equalIn_agg W _ 35 _ _ hS hp]
  simp only [Program.fieldsOf, Tryz.underlying35]
  simp [Op.eqFields, go_sem, peqL]
theorem peqA (W : World) (d : Nat) (a b c : Int) : (Op.equalIn (d + 2) 107 (.agg #[.int .i64 a, .int .i64 b, .int .i64 c]) (.agg #[.int .i64 a, .int .i64 b, .int .i64 c])).run Tryz.prog W = .ok true W := by
  have hS : Tryz.prog.underlying 107 = some (.struct (Tryz.prog.fieldsOf 107)) := by kernel_rfl
  have hp : Tryz.prog.stoodInHeld 107 = false := by kernel_rfl
  rw [run_equalIn_agg W _ 107 _ _ hS hp]
  simp only [Program.fieldsOf, Tryz.underlying107]
  simp [Op.eqFields, go_sem, peqL]
theorem peqP (W : World) (p : Pn) : (Op.equalIn 10000 109 p.val p.val).run Tryz.prog W = .ok true W := by
  have hS : Tryz.prog.underlying 109 = some (.struct (Tryz.prog.fieldsOf 109)) := by kernel_rfl
  have hp : Tryz.prog.stoodInHeld 109 = false := by kernel_rfl
  have hW : ∀ W (a b : Int), (Op.equalIn 9999 35 (.agg #[.int .i64 a, .int .i64 b]) (.agg #[.int .i64 a, .int .i64 b])).run Tryz.prog W = .ok true W := fun W => peqW W 9997
  have hA : ∀ W (a b c : Int), (Op.equalIn 9999 107 (.agg #[.int .i64 a, .int .i64 b, .int .i64 c]) (.agg #[.int .i64 a, .int .i64 b, .int .i64 c])).run Tryz.prog W = .ok true W := fun W => peqA W 9997
  have hK : ∀ W (a : ByteArray), (Op.equalIn 9999 9 (.string a) (.string a)).run Tryz.prog W = .ok true W := fun W => peqS W 9998
  unfold Pn.val
  rw [show (10000 : Nat) = 9999 + 1 from rfl, run_equalIn_agg W _ 109 _ _ hS hp]
  simp only [Program.fieldsOf, Tryz.underlying109]
  simp [Op.eqFields, go_sem, hW, hA, hK]
set_option maxRecDepth 100000 in
set_option maxHeartbeats 1000000 in
theorem plike_same (l : List Pn) (v u : Value) (w : World) (hv : Row Pn.cs 6 w v l) (hu : Row Pn.cs 6 w u l) (hl : l.length ≤ 2000) :
    Calls Tryz.prog 18 #[v, u] w fun e w' => e = .returned (.bool true) ∧ Below w.heap.size w w' := by
  obtain ⟨A, c, rfl, hc, hA⟩ := hv
  obtain ⟨A', c', rfl, hc', hA'⟩ := hu
  have HA := Lib.hid hA
  have HA' := Lib.hid hA'
  clear hA hA'
  obtain ⟨n, hn⟩ : ∃ n, l.length = n := ⟨_, rfl⟩
  rw [hn] at hl hc hc' ⊢
  have Hn := Lib.hid hn
  clear hn
  go_enter Tryz.func18, Tryz.ntmps18
  go_wp2_with fail
  go_loopw [13] (fun i wr => ∃ k m : Nat, k ≤ n ∧ i = .int .i64 k ∧ wr = w.drewN m) (fun i _ => n - (intOf i).toNat)
  case atStart => exact ⟨0, 0, Nat.zero_le _, rfl, rfl⟩
  case round =>
    obtain ⟨k, m, hk, rfl, rfl⟩ := hrel
    by_cases hlt : k < n
    · obtain ⟨x, hi⟩ : ∃ x, l[k]? = some x := ⟨_, List.getElem?_eq_getElem (by rw [Hn.out]; exact hlt)⟩
      obtain ⟨b, o, rfl, hb, hX⟩ := HA.out (by rw [Hn.out]; omega)
      obtain ⟨b', o', rfl, hb', hX'⟩ := HA'.out (by rw [Hn.out]; omega)
      have c0 := hX k x 0 _ hi rfl
      have c1 := hX k x 1 _ hi rfl
      have c2 := hX k x 2 _ hi rfl
      have c3 := hX k x 3 _ hi rfl
      have c4 := hX k x 4 _ hi rfl
      have c5 := hX k x 5 _ hi rfl
      have d0 := hX' k x 0 _ hi rfl
      have d1 := hX' k x 1 _ hi rfl
      have d2 := hX' k x 2 _ hi rfl
      have d3 := hX' k x 3 _ hi rfl
      have d4 := hX' k x 4 _ hi rfl
      have d5 := hX' k x 5 _ hi rfl
      have hE := fun W => peqP W x
      clear hX hX' hi
      obtain ⟨lo, hi, ks, pn, pa, pb⟩ := x
      unfold Pn.val at hE
      simp only [Nat.add_zero] at c0 c1 c2 c3 c4 c5 d0 d1 d2 d3 d4 d5 hE
      go_wp2_with fail
      go_quiet (fail)
      go_wp2_with fail
      go_roundw
      case rel => exact ⟨k + 1, _, by omega, by go_num, rfl⟩
      case measure => simp [intOf]; omega
    · go_wp2_with fail
      go_ret
      exact ⟨rfl, bDrewN (Below.refl _ _)⟩
end Go.Proofs.YtlboehpgpbchhaaGreat
