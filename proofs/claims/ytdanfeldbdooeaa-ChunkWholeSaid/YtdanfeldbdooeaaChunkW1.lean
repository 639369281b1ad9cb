/-
  WALKS of layer 20: chunks; LikeChunks, group, New.
-/
import Derived.Test.YtdanfeldbdooeaaRowsK
set_option linter.unusedVariables false
set_option linter.unusedSimpArgs false
namespace Go.Proofs.Ytdanfeldbdooeaa
open Go.RowKit

structure Ck where
  g : Int
  no : Int
  of_ : Int
  b : ByteArray
def Ck.cs (c : Ck) : List Value := [.int .i64 c.g, .int .i64 c.no, .int .i64 c.of_, .string c.b]
theorem Ck.cs_len (c : Ck) : c.cs.length = 4 := rfl
def ckEq (a b : Ck) : Bool := a.g == b.g && (a.no == b.no && (a.of_ == b.of_ && a.b.toList == b.b.toList))
theorem eqS (W : World) (d : Nat) (a b : ByteArray) : (Op.equalIn (d + 1) 9 (.string a) (.string b)).run Try.prog W = .ok (a.toList == b.toList) W := run_equalIn_string W d 9 a b Try.underlying9
theorem eqL (W : World) (d : Nat) (a b : Int) : (Op.equalIn (d + 1) 2 (.int .i64 a) (.int .i64 b)).run Try.prog W = .ok (a == b) W := run_equalIn_int W d 2 .i64 .i64 a b Try.underlying2
theorem eqI (W : World) (d : Nat) (a b : Int) : (Op.equalIn (d + 1) 3 (.int .i64 a) (.int .i64 b)).run Try.prog W = .ok (a == b) W := run_equalIn_int W d 3 .i64 .i64 a b Try.underlying3
theorem eqCk (W : World) (a b : Ck) : (Op.equalIn 10000 56 (.agg #[.int .i64 a.g, .int .i64 a.no, .int .i64 a.of_, .string a.b]) (.agg #[.int .i64 b.g, .int .i64 b.no, .int .i64 b.of_, .string b.b])).run Try.prog W = .ok (ckEq a b) W := by
  have hS : Try.prog.underlying 56 = some (.struct (Try.prog.fieldsOf 56)) := by kernel_rfl
  have hp : Try.prog.stoodInHeld 56 = false := by kernel_rfl
  have hI : ∀ W (a b : Int), (Op.equalIn 9999 3 (.int .i64 a) (.int .i64 b)).run Try.prog W = .ok (a == b) W := fun W => eqI W 9998
  have hS' : ∀ W (a b : ByteArray), (Op.equalIn 9999 9 (.string a) (.string b)).run Try.prog W = .ok (a.toList == b.toList) W := fun W => eqS W 9998
  unfold ckEq
  rw [show (10000 : Nat) = 9999 + 1 from rfl, run_equalIn_agg W _ 56 _ _ hS hp]
  simp only [Program.fieldsOf, Try.underlying56]
  by_cases e1 : a.g = b.g <;> by_cases e2 : a.no = b.no <;> by_cases e3 : a.of_ = b.of_ <;> by_cases e4 : a.b.toList = b.b.toList <;> simp [Op.eqFields, go_sem, hI, hS', e1, e2, e3, e4]
theorem ckEq_refl (a : Ck) : ckEq a a = true := by simp [ckEq]
/-- A relation of a loop, kept out of the walk's sight. -/
def Drawn (w W : World) : Prop := ∃ n, W = w.drewN n
set_option maxHeartbeats 1000000 in
theorem likeC_same (l : List Ck) (v u : Value) (w : World) (hv : Row Ck.cs 4 w v l) (hu : Row Ck.cs 4 w u l) (hl : l.length ≤ 1000000) :
    Calls Try.prog 35 #[v, u] w fun e w' => e = .returned (.bool true) ∧ Drawn w w' := by
  obtain ⟨A, c, rfl, hc, hA⟩ := hv
  obtain ⟨A', c', rfl, hc', hA'⟩ := hu
  have HA := Lib.hid hA
  have HA' := Lib.hid hA'
  clear hA hA'
  obtain ⟨n, hn⟩ : ∃ n, l.length = n := ⟨_, rfl⟩
  rw [hn] at hl hc hc' ⊢
  have Hn := Lib.hid hn
  clear hn
  go_enter Try.func35, Try.ntmps35
  go_wp2_with fail
  go_loopw [13] (fun i wr => ∃ k m : Nat, k ≤ n ∧ i = .int .i64 k ∧ wr = w.drewN m) (fun i _ => n - (intOf i).toNat)
  case atStart => exact ⟨0, 0, Nat.zero_le _, rfl, rfl⟩
  case round =>
    obtain ⟨k, m, hk, rfl, rfl⟩ := hrel
    by_cases hlt : k < n
    · obtain ⟨x, hi⟩ : ∃ x, l[k]? = some x := ⟨_, List.getElem?_eq_getElem (by rw [Hn.out]; exact hlt)⟩
      obtain ⟨b, o, rfl, hb, hX⟩ := HA.out (by rw [Hn.out]; omega)
      obtain ⟨b', o', rfl, hb', hX'⟩ := HA'.out (by rw [Hn.out]; omega)
      have c0 := hX k x 0 _ hi rfl
      have c1 := hX k x 1 _ hi rfl
      have c2 := hX k x 2 _ hi rfl
      have c3 := hX k x 3 _ hi rfl
      have d0 := hX' k x 0 _ hi rfl
      have d1 := hX' k x 1 _ hi rfl
      have d2 := hX' k x 2 _ hi rfl
      have d3 := hX' k x 3 _ hi rfl
      have hE := fun W => eqCk W x x
      simp only [ckEq_refl] at hE
      clear hX hX' hi
      obtain ⟨xg, xn, xo, xb⟩ := x
      simp only [Nat.add_zero] at c0 c1 c2 c3 d0 d1 d2 d3 hE
      go_wp2_with fail
      go_quiet (fail)
      go_wp2_with fail
      go_roundw
      case rel => exact ⟨k + 1, _, by omega, by go_num, rfl⟩
      case measure => simp [intOf]; omega
    · go_wp2_with fail
      go_ret
      exact ⟨rfl, m, rfl⟩
theorem group_any (n : Int) (w : World) (b : Bool) (hb : (decide (0 ≤ n) && decide (n < 32)) = b) : Calls Try.prog 60 #[.int .i64 n] w fun e w' => e = .returned (.bool b) ∧ w = w' := by
  by_cases h0 : 0 ≤ n
  · rw [decide_eq_true h0, Bool.true_and] at hb
    subst hb
    go_enter Try.func60, Try.ntmps60
    go_wp2_with fail
    go_ret
    exact ⟨rfl, rfl⟩
  · rw [decide_eq_false h0, Bool.false_and] at hb
    subst hb
    go_enter Try.func60, Try.ntmps60
    go_wp2_with fail
    go_ret
    exact ⟨rfl, rfl⟩
theorem rgroup_any (n : Int) (w : World) (b : Bool) (hb : (decide (0 ≤ n) && decide (n < 32)) = b) : Calls Try.prog 66 #[.int .i64 n] w fun e w' => e = .returned (.bool b) ∧ w = w' := by
  by_cases h0 : 0 ≤ n
  · by_cases h1 : n ≤ 31
    · have : b = true := by rw [← hb]; simp; omega
      subst this
      clear hb
      go_enter Try.func66, Try.ntmps66
      go_wp2_with fail
      go_ret
      exact ⟨rfl, rfl⟩
    · have : b = false := by rw [← hb]; simp; omega
      subst this
      clear hb
      go_enter Try.func66, Try.ntmps66
      go_wp2_with fail
      go_ret
      exact ⟨rfl, rfl⟩
  · rw [decide_eq_false h0, Bool.false_and] at hb
    subst hb
    go_enter Try.func66, Try.ntmps66
    go_wp2_with fail
    go_ret
    exact ⟨rfl, rfl⟩
theorem new_any (n : Int) (w : World) (b : Bool) (hb : (decide (0 ≤ n) && decide (n < 32)) = b) : Calls Try.prog 33 #[.int .i64 n] w fun e w' => e = .returned (.tuple #[.agg #[.int .i64 (if b then n else 0), .int .i64 0, .slice none 0 0], .int .i64 (if b then 0 else 1)]) ∧ Below w.heap.size w w' := by
  have HG := Lib.hid (fun W => group_any n W b hb)
  clear hb
  cases b with
  | true =>
    go_enter Try.func33, Try.ntmps33
    go_wp2_with fail
    refine (HG.out _).mono ?_
    rintro e w' ⟨rfl, rfl⟩
    go_wp2_with fail
    exact bodyPost_ret (v := .tuple #[.agg #[.int .i64 n, .int .i64 0, .slice none 0 0], .int .i64 0]) (by simp [results, Try.results33, go_sem]) rfl ⟨rfl, bel_alloc (Below.refl _ _) _⟩
  | false =>
    go_enter Try.func33, Try.ntmps33
    go_wp2_with fail
    refine (HG.out _).mono ?_
    rintro e w' ⟨rfl, rfl⟩
    go_wp2_with fail
    exact bodyPost_ret (v := .tuple #[.agg #[.int .i64 0, .int .i64 0, .slice none 0 0], .int .i64 1]) (by simp [results, Try.results33, go_sem]) rfl ⟨rfl, bel_alloc (Below.refl _ _) _⟩
theorem next_any (g : Nat) (s : ByteArray) (w : World) (hg : w.heap[g]? = some (.cells #[.string s] 9 (0, 0))) (K : Nat) (hK : K = min s.size 256) :
    Calls Try.prog 65 #[.pointer (some ⟨g, 0, none⟩)] w fun e w' => e = .returned (.string (s.extract 0 K)) ∧ w' = w.setCell ⟨g, 0, none⟩ (.string (s.extract K s.size)) := by
  have c0 := cellsAt hg 0
  have f0 := frozAt hg 0
  simp at c0
  have HK := Lib.hid hK
  clear hg hK
  go_enter Try.func65, Try.ntmps65
  go_wp2_with fail
  have e1 : (min (s.size : Int) 256).toNat = K := by rw [HK.out]; omega
  have e2 : min K s.size = K := by rw [HK.out]; omega
  simp only [e1, e2]
  go_ret
  exact ⟨rfl, rfl⟩
end Go.Proofs.Ytdanfeldbdooeaa
