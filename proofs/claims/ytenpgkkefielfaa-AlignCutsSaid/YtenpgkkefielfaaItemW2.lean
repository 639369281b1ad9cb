/-
  LAWS of the items' structs: equality.
-/
import Derived.Test.YtenpgkkefielfaaItemW1
namespace Go.Proofs.Ytenpgkkefielfaa
open Go.RowKit

theorem eqS (W : World) (d : Nat) (a b : ByteArray) : (Op.equalIn (d + 1) 9 (.string a) (.string b)).run Try.prog W = .ok (a.toList == b.toList) W := run_equalIn_string W d 9 a b Try.underlying9
theorem eqL (W : World) (d : Nat) (a b : Int) : (Op.equalIn (d + 1) 2 (.int .i64 a) (.int .i64 b)).run Try.prog W = .ok (a == b) W := run_equalIn_int W d 2 .i64 .i64 a b Try.underlying2
theorem eqI (W : World) (d : Nat) (a b : Int) : (Op.equalIn (d + 1) 3 (.int .i64 a) (.int .i64 b)).run Try.prog W = .ok (a == b) W := run_equalIn_int W d 3 .i64 .i64 a b Try.underlying3
theorem eq51 (W : World) (d : Nat) (k l : ByteArray) (a b v x : Int) : (Op.equalIn (d + 2) 37 (.agg #[.string k, .int .i64 a, .int .i64 v]) (.agg #[.string l, .int .i64 b, .int .i64 x])).run Try.prog W = .ok (k.toList == l.toList && (a == b && v == x)) W := by
  have hS : Try.prog.underlying 37 = some (.struct (Try.prog.fieldsOf 37)) := by kernel_rfl
  have hp : Try.prog.stoodInHeld 37 = false := by kernel_rfl
  rw [run_equalIn_agg W _ 37 _ _ hS hp]
  simp only [Program.fieldsOf, Try.underlying37]
  by_cases e1 : k.toList = l.toList <;> by_cases e2 : a = b <;> by_cases e3 : v = x <;> simp [Op.eqFields, go_sem, eqS, eqL, e1, e2, e3]
theorem eq53 (W : World) (d : Nat) (a b v x : Int) : (Op.equalIn (d + 2) 39 (.agg #[.int .i64 a, .int .i64 v]) (.agg #[.int .i64 b, .int .i64 x])).run Try.prog W = .ok (a == b && v == x) W := by
  have hS : Try.prog.underlying 39 = some (.struct (Try.prog.fieldsOf 39)) := by kernel_rfl
  have hp : Try.prog.stoodInHeld 39 = false := by kernel_rfl
  rw [run_equalIn_agg W _ 39 _ _ hS hp]
  simp only [Program.fieldsOf, Try.underlying39]
  by_cases e2 : a = b <;> by_cases e3 : v = x <;> simp [Op.eqFields, go_sem, eqL, e2, e3]
theorem eq55 (W : World) (d : Nat) (k l : ByteArray) (lo hi n v lo' hi' n' v' : Int) :
    (Op.equalIn (d + 3) 41 (.agg #[.int .i64 lo, .int .i64 hi, .string k, .int .i64 n, .int .i64 v]) (.agg #[.int .i64 lo', .int .i64 hi', .string l, .int .i64 n', .int .i64 v'])).run Try.prog W
      = .ok ((lo == lo' && hi == hi') && (k.toList == l.toList && (n == n' && v == v'))) W := by
  have hS : Try.prog.underlying 41 = some (.struct (Try.prog.fieldsOf 41)) := by kernel_rfl
  have hp : Try.prog.stoodInHeld 41 = false := by kernel_rfl
  have h53 : ∀ W (a b v x : Int), (Op.equalIn (d + 2) 39 (.agg #[.int .i64 a, .int .i64 v]) (.agg #[.int .i64 b, .int .i64 x])).run Try.prog W = .ok (a == b && v == x) W := fun W => eq53 W d
  rw [run_equalIn_agg W _ 41 _ _ hS hp]
  simp only [Program.fieldsOf, Try.underlying41]
  obtain ⟨q, hq⟩ : ∃ q, (lo == lo' && hi == hi') = q := ⟨_, rfl⟩
  cases q <;> by_cases e1 : k.toList = l.toList <;> by_cases e2 : n = n' <;> by_cases e3 : v = v' <;> simp [Op.eqFields, go_sem, eqS, eqL, h53, hq, e1, e2, e3]
theorem eq57 (W : World) (a b : It) : (Op.equalIn 10000 43 (itV a) (itV b)).run Try.prog W = .ok (sameI a b) W := by
  have hS : Try.prog.underlying 43 = some (.struct (Try.prog.fieldsOf 43)) := by kernel_rfl
  have hp : Try.prog.stoodInHeld 43 = false := by kernel_rfl
  have h51 : ∀ W (k l : ByteArray) (a b v x : Int), (Op.equalIn 9999 37 (.agg #[.string k, .int .i64 a, .int .i64 v]) (.agg #[.string l, .int .i64 b, .int .i64 x])).run Try.prog W = .ok (k.toList == l.toList && (a == b && v == x)) W := fun W => eq51 W 9997
  have h55 : ∀ W (k l : ByteArray) (lo hi n v lo' hi' n' v' : Int),
    (Op.equalIn 9999 41 (.agg #[.int .i64 lo, .int .i64 hi, .string k, .int .i64 n, .int .i64 v]) (.agg #[.int .i64 lo', .int .i64 hi', .string l, .int .i64 n', .int .i64 v'])).run Try.prog W
      = .ok ((lo == lo' && hi == hi') && (k.toList == l.toList && (n == n' && v == v'))) W := fun W => eq55 W 9996
  have hI : ∀ W (a b : Int), (Op.equalIn 9999 3 (.int .i64 a) (.int .i64 b)).run Try.prog W = .ok (a == b) W := fun W => eqI W 9998
  have hL : ∀ W (a b : Int), (Op.equalIn 9999 2 (.int .i64 a) (.int .i64 b)).run Try.prog W = .ok (a == b) W := fun W => eqL W 9998
  unfold itV sameI
  rw [show (10000 : Nat) = 9999 + 1 from rfl, run_equalIn_agg W _ 43 _ _ hS hp]
  simp only [Program.fieldsOf, Try.underlying43]
  obtain ⟨q, hq⟩ : ∃ q, (a.ek.toList == b.ek.toList && (a.ea == b.ea && a.ev == b.ev)) = q := ⟨_, rfl⟩
  obtain ⟨r, hr⟩ : ∃ r, ((a.lo == b.lo && a.hi == b.hi) && (a.rk.toList == b.rk.toList && (a.rn == b.rn && a.rv == b.rv))) = r := ⟨_, rfl⟩
  cases q <;> cases r <;> by_cases e1 : a.kind = b.kind <;> by_cases e2 : a.ma = b.ma <;> by_cases e3 : a.n = b.n <;> simp [Op.eqFields, go_sem, hI, hL, h51, h55, hq, hr, e1, e2, e3]
end Go.Proofs.Ytenpgkkefielfaa
