/-
  WALKS: the texts ItemPlain, ItemArgs, ItemW1, ItemW2, ItemW3, ItemW4, but for what speaks of functions that are not here (progonly.py).
-/
import Derived.Test.YtlboehpgpbchhaaGreatVlqT
import Derived.Test.YtlboehpgpbchhaaGreatFrame
import Derived.Test.YtlboehpgpbchhaaGreatRowsArg
import Derived.WalkKit
import Derived.ProofKit
import Derived.OpenShut
import Derived.ShutString
import Derived.ChangeOld
import Derived.Below
import Derived.Laws.StructEq
import Derived.RegionTactic
import Derived.Outline
set_option linter.unusedVariables false
set_option linter.unusedSimpArgs false
namespace Go.Proofs.YtlboehpgpbchhaaGreat.Itm

def keyB (s : ByteArray) : Bool := decide (0 < s.size) && decide (s.size ≤ 16)
def evB (k : ByteArray) (a : Int) : Bool := keyB k && (decide (0 ≤ a) && decide (a < 1099511627776))
def resB (lo hi : Int) (k : ByteArray) (n : Int) : Bool :=
  keyB k && (decide (0 ≤ lo) && (decide (lo < hi) && (decide (hi ≤ 1099511627776) && (decide (1 ≤ n) && decide (n ≤ 1073741824)))))
/-- The cells of an item. -/
structure It where
  kind : Int
  ek : ByteArray
  ea : Int
  ev : Int
  ma : Int
  n : Int
  lo : Int
  hi : Int
  rk : ByteArray
  rn : Int
  rv : Int
def itZ : It := ⟨0, ⟨#[]⟩, 0, 0, 0, 0, 0, 0, ⟨#[]⟩, 0, 0⟩
def bareI (i : It) : It :=
  if i.kind = 1 then { itZ with kind := 1, ek := i.ek, ea := i.ea, ev := i.ev }
  else if i.kind = 2 then { itZ with kind := 2, ma := i.ma }
  else if i.kind = 3 then { itZ with kind := 3 }
  else if i.kind = 4 then { itZ with kind := 4, n := i.n }
  else if i.kind = 5 then { itZ with kind := 5, lo := i.lo, hi := i.hi, rk := i.rk, rn := i.rn, rv := i.rv }
  else { itZ with kind := i.kind }
def bareB (i : It) : Bool :=
  if i.kind = 1 then evB i.ek i.ea
  else if i.kind = 2 then decide (0 ≤ i.ma) && decide (i.ma ≤ 1099511627776)
  else if i.kind = 3 then true
  else if i.kind = 4 then decide (1 ≤ i.n) && decide (i.n ≤ 1073741824)
  else if i.kind = 5 then resB i.lo i.hi i.rk i.rn
  else false
def sameI (a b : It) : Bool :=
  a.kind == b.kind && ((a.ek.toList == b.ek.toList && (a.ea == b.ea && a.ev == b.ev)) && (a.ma == b.ma && (a.n == b.n && ((a.lo == b.lo && a.hi == b.hi) && (a.rk.toList == b.rk.toList && (a.rn == b.rn && a.rv == b.rv))))))
/-- An item's value. -/
def itV (i : It) : Value := .agg #[.int .i64 i.kind, .string i.ek, .int .i64 i.ea, .int .i64 i.ev, .int .i64 i.ma, .int .i64 i.n, .int .i64 i.lo, .int .i64 i.hi, .string i.rk, .int .i64 i.rn, .int .i64 i.rv]
def rightI (i : It) : Bool := bareB i && sameI (bareI i) i
open Go.ChangeShapes Go.WideShapes Go.ChangeAt Go.RowKit
def wfL (a : Int) : Prop := -9223372036854775808 ≤ a ∧ a ≤ 9223372036854775807
/-- What is known of the fields of an item that came in. -/
def It.Wf (i : It) : Prop := wfL i.kind ∧ i.ek.size ≤ maxLen ∧ wfL i.ea ∧ wfL i.ev ∧ wfL i.ma ∧ wfL i.n ∧ wfL i.lo ∧ wfL i.hi ∧ i.rk.size ≤ maxLen ∧ wfL i.rn ∧ wfL i.rv
section
variable {H : Type} {enc : TypeId × Value → H} {W : World} {base : Nat} {spare : Nat → Bool} {held : Bool}
theorem cells3 : Tryz.prog.cellsOf 3 = 1 := by kernel_rfl
theorem cells2 : Tryz.prog.cellsOf 2 = 1 := by kernel_rfl
theorem cells9 : Tryz.prog.cellsOf 9 = 1 := by kernel_rfl
theorem cells51 : Tryz.prog.cellsOf 41 = 3 := by kernel_rfl
theorem cells53 : Tryz.prog.cellsOf 35 = 2 := by kernel_rfl
theorem cells55 : Tryz.prog.cellsOf 37 = 5 := by kernel_rfl
theorem cells57 : Tryz.prog.cellsOf 43 = 11 := by kernel_rfl
theorem open51 {n : Nat} {c0 c1 c2 : Value} {y : DataW H × List MemPlace} (h : DataW.trod enc Tryz.prog W base spare held n 41 [c0, c1, c2] = some y) :
    ∃ k a v, c0 = .string k ∧ c1 = .int .i64 a ∧ c2 = .int .i64 v ∧ k.size ≤ maxLen ∧ wfL a ∧ wfL v := by
  obtain ⟨xs, m, _, _, _, hlen, hg⟩ := DataW.trod_struct Tryz.underlying41 h
  match xs, hlen with
  | [y0, y1, y2], _ =>
    obtain ⟨k, e0, _, b0⟩ := DataW.trod_string Tryz.underlying9 (x := y0) (by simpa [cells9] using hg 0 _ rfl)
    obtain ⟨a, e1, _, b1⟩ := DataW.trod_int Tryz.underlying2 (x := y1) (by simpa [cells2] using hg 1 _ rfl)
    obtain ⟨v, e2, _, b2⟩ := DataW.trod_int Tryz.underlying2 (x := y2) (by simpa [cells2] using hg 2 _ rfl)
    simp at e0 e1 e2
    exact ⟨k, a, v, e0, e1, e2, b0, i64_bd b1, i64_bd b2⟩
theorem open53 {n : Nat} {c0 c1 : Value} {y : DataW H × List MemPlace} (h : DataW.trod enc Tryz.prog W base spare held n 35 [c0, c1] = some y) :
    ∃ a v, c0 = .int .i64 a ∧ c1 = .int .i64 v ∧ wfL a ∧ wfL v := by
  obtain ⟨xs, m, _, _, _, hlen, hg⟩ := DataW.trod_struct Tryz.underlying35 h
  match xs, hlen with
  | [y1, y2], _ =>
    obtain ⟨a, e1, _, b1⟩ := DataW.trod_int Tryz.underlying2 (x := y1) (by simpa [cells2] using hg 0 _ rfl)
    obtain ⟨v, e2, _, b2⟩ := DataW.trod_int Tryz.underlying2 (x := y2) (by simpa [cells2] using hg 1 _ rfl)
    simp at e1 e2
    exact ⟨a, v, e1, e2, i64_bd b1, i64_bd b2⟩
theorem open55 {n : Nat} {c0 c1 c2 c3 c4 : Value} {y : DataW H × List MemPlace} (h : DataW.trod enc Tryz.prog W base spare held n 37 [c0, c1, c2, c3, c4] = some y) :
    ∃ lo hi k n v, c0 = .int .i64 lo ∧ c1 = .int .i64 hi ∧ c2 = .string k ∧ c3 = .int .i64 n ∧ c4 = .int .i64 v ∧ wfL lo ∧ wfL hi ∧ k.size ≤ maxLen ∧ wfL n ∧ wfL v := by
  obtain ⟨xs, m, _, _, _, hlen, hg⟩ := DataW.trod_struct Tryz.underlying37 h
  match xs, hlen with
  | [y0, y1, y2, y3], _ =>
    obtain ⟨lo, hi, e0, e1, b0, b1⟩ := open53 (enc := enc) (W := W) (base := base) (spare := spare) (held := held) (n := m) (c0 := c0) (c1 := c1) (y := y0) (by simpa [cells53] using hg 0 _ rfl)
    obtain ⟨k, e2, _, b2⟩ := DataW.trod_string Tryz.underlying9 (x := y1) (by simpa [cells9] using hg 1 _ rfl)
    obtain ⟨n, e3, _, b3⟩ := DataW.trod_int Tryz.underlying2 (x := y2) (by simpa [cells2] using hg 2 _ rfl)
    obtain ⟨v, e4, _, b4⟩ := DataW.trod_int Tryz.underlying2 (x := y3) (by simpa [cells2] using hg 3 _ rfl)
    simp at e2 e3 e4
    exact ⟨lo, hi, k, n, v, e0, e1, e2, e3, e4, b0, b1, b2, i64_bd b3, i64_bd b4⟩
set_option maxRecDepth 100000 in
theorem arg_ev {r : Reach} {b : Nat} {v : Value} {d : DataW H} {p : List MemPlace} (hok : Value.okWide Tryz.prog W r b 41 v) (h : DataW.Trod enc Tryz.prog W base spare held 41 v d p) :
    ∃ x, v = x ∧ ∃ k a u, x = .agg #[.string k, .int .i64 a, .int .i64 u] ∧ k.size ≤ maxLen ∧ wfL a ∧ wfL u := by
  obtain ⟨cs, rfl, hsz⟩ := okWide_struct Tryz.underlying41 hok
  obtain ⟨l⟩ := cs
  match l, hsz.trans cells51 with
  | [c0, c1, c2], _ =>
    obtain ⟨fuel, hf⟩ := h
    obtain ⟨k, a, u, rfl, rfl, rfl, b0, b1, b2⟩ := open51 hf
    exact ⟨_, rfl, k, a, u, rfl, b0, b1, b2⟩
set_option maxRecDepth 100000 in
theorem arg_item {r : Reach} {b : Nat} {v : Value} {d : DataW H} {p : List MemPlace} (hok : Value.okWide Tryz.prog W r b 43 v) (h : DataW.Trod enc Tryz.prog W base spare held 43 v d p) :
    ∃ x, v = x ∧ ∃ i : It, x = itV i ∧ i.Wf := by
  obtain ⟨cs, rfl, hsz⟩ := okWide_struct Tryz.underlying43 hok
  obtain ⟨l⟩ := cs
  match l, hsz.trans cells57 with
  | [c0, c1, c2, c3, c4, c5, c6, c7, c8, c9, c10], _ =>
    obtain ⟨fuel, hf⟩ := h
    obtain ⟨xs, m, _, _, _, hlen, hg⟩ := DataW.trod_struct Tryz.underlying43 hf
    match xs, hlen with
    | [y0, y1, y2, y3, y4], _ =>
      obtain ⟨kind, e0, _, b0⟩ := DataW.trod_int Tryz.underlying3 (x := y0) (by simpa [Value.cells, cells3] using hg 0 _ rfl)
      obtain ⟨ek, ea, ev, rfl, rfl, rfl, b1, b2, b3⟩ := open51 (enc := enc) (W := W) (base := base) (spare := spare) (held := held) (n := m) (c0 := c1) (c1 := c2) (c2 := c3) (y := y1) (by simpa [Value.cells, cells51] using hg 1 _ rfl)
      obtain ⟨ma, e4, _, b4⟩ := DataW.trod_int Tryz.underlying2 (x := y2) (by simpa [Value.cells, cells2] using hg 2 _ rfl)
      obtain ⟨n, e5, _, b5⟩ := DataW.trod_int Tryz.underlying3 (x := y3) (by simpa [Value.cells, cells3] using hg 3 _ rfl)
      obtain ⟨lo, hi, rk, rn, rv, rfl, rfl, rfl, rfl, rfl, b6, b7, b8, b9, b10⟩ := open55 (enc := enc) (W := W) (base := base) (spare := spare) (held := held) (n := m) (c0 := c6) (c1 := c7) (c2 := c8) (c3 := c9) (c4 := c10) (y := y4) (by simpa [Value.cells, cells55] using hg 4 _ rfl)
      simp at e0 e4 e5
      subst e0 e4 e5
      exact ⟨_, rfl, ⟨kind, ek, ea, ev, ma, n, lo, hi, rk, rn, rv⟩, rfl, i64_bd b0, b1, b2, b3, i64_bd b4, i64_bd b5, b6, b7, b8, b9, b10⟩
end
open Go.RowKit
theorem key_any (s : ByteArray) (w : World) (b : Bool) (hb : keyB s = b) : Calls Tryz.prog 109 #[.string s] w fun e w' => e = .returned (.bool b) ∧ w = w' := by
  unfold keyB at hb
  by_cases h0 : s = ⟨#[]⟩
  · subst h0
    have hb' : b = false := by rw [← hb]; rfl
    subst hb'
    clear hb
    go_enter Tryz.func109, Tryz.ntmps109
    go_wp2_with fail
    go_ret
    exact ⟨rfl, rfl⟩
  · have hs : 0 < s.size := by
      rcases Nat.eq_zero_or_pos s.size with h | h
      · exact absurd (ByteArray.size_eq_zero_iff.1 h) h0
      · exact h
    have h1 : s.toList.isEmpty = false := by
      rw [ByteArray.toList_eq]
      rcases h : s.data.toList with _ | ⟨x, l⟩
      · have h2 : s.data.toList.length = s.size := Array.length_toList
        rw [h] at h2; simp at h2; omega
      · rfl
    have hb' : b = decide ((s.size : Int) ≤ 16) := by rw [← hb, decide_eq_true (by omega), Bool.true_and]; exact decide_eq_decide.2 (by omega)
    have Hb := Lib.hid hb'
    clear hb hb' h0
    go_enter Tryz.func109, Tryz.ntmps109
    go_wp2_with fail
    go_ret
    rw [Hb.out]
    exact ⟨rfl, rfl⟩
theorem event_any (k : ByteArray) (a v : Int) (w : World) (b : Bool) (hb : evB k a = b) : Calls Tryz.prog 87 #[.agg #[.string k, .int .i64 a, .int .i64 v]] w fun e w' => e = .returned (.bool b) ∧ w' = w.alloc (.cells #[.string k, .int .i64 a, .int .i64 v] 41) := by
  unfold evB at hb
  obtain ⟨q, hq⟩ : ∃ q, keyB k = q := ⟨_, rfl⟩
  rw [hq] at hb
  have Hq := Lib.hid hq
  clear hq
  go_enter Tryz.func87, Tryz.ntmps87
  go_wp2_with fail
  refine (key_any k _ q Hq.out).mono ?_
  rintro e w' ⟨rfl, rfl⟩
  cases q with
  | false =>
    rw [Bool.false_and] at hb
    subst hb
    go_wp2_with fail
    go_ret
    exact ⟨rfl, rfl⟩
  | true =>
    rw [Bool.true_and] at hb
    by_cases h0 : 0 ≤ a
    rotate_left
    · rw [decide_eq_false h0, Bool.false_and] at hb
      subst hb
      go_wp2_with fail
      go_ret
      exact ⟨rfl, rfl⟩
    rw [decide_eq_true h0, Bool.true_and] at hb
    subst hb
    go_wp2_with fail
    go_ret
    exact ⟨rfl, rfl⟩
theorem result_any (lo hi : Int) (k : ByteArray) (n v : Int) (w : World) (b : Bool) (hb : resB lo hi k n = b) : Calls Tryz.prog 97 #[.agg #[.int .i64 lo, .int .i64 hi, .string k, .int .i64 n, .int .i64 v]] w fun e w' => e = .returned (.bool b) ∧ w' = w.alloc (.cells #[.int .i64 lo, .int .i64 hi, .string k, .int .i64 n, .int .i64 v] 37) := by
  unfold resB at hb
  obtain ⟨q, hq⟩ : ∃ q, keyB k = q := ⟨_, rfl⟩
  rw [hq] at hb
  have Hq := Lib.hid hq
  clear hq
  go_enter Tryz.func97, Tryz.ntmps97
  go_wp2_with fail
  refine (key_any k _ q Hq.out).mono ?_
  rintro e w' ⟨rfl, rfl⟩
  cases q with
  | false =>
    rw [Bool.false_and] at hb
    subst hb
    go_wp2_with fail
    go_ret
    exact ⟨rfl, rfl⟩
  | true =>
    rw [Bool.true_and] at hb
    by_cases h0 : 0 ≤ lo
    rotate_left
    · rw [decide_eq_false h0, Bool.false_and] at hb
      subst hb
      go_wp2_with fail
      go_ret
      exact ⟨rfl, rfl⟩
    rw [decide_eq_true h0, Bool.true_and] at hb
    by_cases h1 : lo < hi
    rotate_left
    · rw [decide_eq_false h1, Bool.false_and] at hb
      subst hb
      go_wp2_with fail
      go_ret
      exact ⟨rfl, rfl⟩
    rw [decide_eq_true h1, Bool.true_and] at hb
    by_cases h2 : hi ≤ 1099511627776
    rotate_left
    · rw [decide_eq_false h2, Bool.false_and] at hb
      subst hb
      go_wp2_with fail
      go_ret
      exact ⟨rfl, rfl⟩
    rw [decide_eq_true h2, Bool.true_and] at hb
    by_cases h3 : 1 ≤ n
    rotate_left
    · rw [decide_eq_false h3, Bool.false_and] at hb
      subst hb
      go_wp2_with fail
      go_ret
      exact ⟨rfl, rfl⟩
    rw [decide_eq_true h3, Bool.true_and] at hb
    subst hb
    go_wp2_with fail
    go_ret
    exact ⟨rfl, rfl⟩
theorem eqS (W : World) (d : Nat) (a b : ByteArray) : (Op.equalIn (d + 1) 9 (.string a) (.string b)).run Tryz.prog W = .ok (a.toList == b.toList) W := run_equalIn_string W d 9 a b Tryz.underlying9
theorem eqL (W : World) (d : Nat) (a b : Int) : (Op.equalIn (d + 1) 2 (.int .i64 a) (.int .i64 b)).run Tryz.prog W = .ok (a == b) W := run_equalIn_int W d 2 .i64 .i64 a b Tryz.underlying2
theorem eqI (W : World) (d : Nat) (a b : Int) : (Op.equalIn (d + 1) 3 (.int .i64 a) (.int .i64 b)).run Tryz.prog W = .ok (a == b) W := run_equalIn_int W d 3 .i64 .i64 a b Tryz.underlying3
theorem eq51 (W : World) (d : Nat) (k l : ByteArray) (a b v x : Int) : (Op.equalIn (d + 2) 41 (.agg #[.string k, .int .i64 a, .int .i64 v]) (.agg #[.string l, .int .i64 b, .int .i64 x])).run Tryz.prog W = .ok (k.toList == l.toList && (a == b && v == x)) W := by
  have hS : Tryz.prog.underlying 41 = some (.struct (Tryz.prog.fieldsOf 41)) := by kernel_rfl
  have hp : Tryz.prog.stoodInHeld 41 = false := by kernel_rfl
  rw [run_equalIn_agg W _ 41 _ _ hS hp]
  simp only [Program.fieldsOf, Tryz.underlying41]
  by_cases e1 : k.toList = l.toList <;> by_cases e2 : a = b <;> by_cases e3 : v = x <;> simp [Op.eqFields, go_sem, eqS, eqL, e1, e2, e3]
theorem eq53 (W : World) (d : Nat) (a b v x : Int) : (Op.equalIn (d + 2) 35 (.agg #[.int .i64 a, .int .i64 v]) (.agg #[.int .i64 b, .int .i64 x])).run Tryz.prog W = .ok (a == b && v == x) W := by
  have hS : Tryz.prog.underlying 35 = some (.struct (Tryz.prog.fieldsOf 35)) := by kernel_rfl
  have hp : Tryz.prog.stoodInHeld 35 = false := by kernel_rfl
  rw [run_equalIn_agg W _ 35 _ _ hS hp]
  simp only [Program.fieldsOf, Tryz.underlying35]
  by_cases e2 : a = b <;> by_cases e3 : v = x <;> simp [Op.eqFields, go_sem, eqL, e2, e3]
theorem eq55 (W : World) (d : Nat) (k l : ByteArray) (lo hi n v lo' hi' n' v' : Int) :
    (Op.equalIn (d + 3) 37 (.agg #[.int .i64 lo, .int .i64 hi, .string k, .int .i64 n, .int .i64 v]) (.agg #[.int .i64 lo', .int .i64 hi', .string l, .int .i64 n', .int .i64 v'])).run Tryz.prog W
      = .ok ((lo == lo' && hi == hi') && (k.toList == l.toList && (n == n' && v == v'))) W := by
  have hS : Tryz.prog.underlying 37 = some (.struct (Tryz.prog.fieldsOf 37)) := by kernel_rfl
  have hp : Tryz.prog.stoodInHeld 37 = false := by kernel_rfl
  have h53 : ∀ W (a b v x : Int), (Op.equalIn (d + 2) 35 (.agg #[.int .i64 a, .int .i64 v]) (.agg #[.int .i64 b, .int .i64 x])).run Tryz.prog W = .ok (a == b && v == x) W := fun W => eq53 W d
  rw [run_equalIn_agg W _ 37 _ _ hS hp]
  simp only [Program.fieldsOf, Tryz.underlying37]
  obtain ⟨q, hq⟩ : ∃ q, (lo == lo' && hi == hi') = q := ⟨_, rfl⟩
  cases q <;> by_cases e1 : k.toList = l.toList <;> by_cases e2 : n = n' <;> by_cases e3 : v = v' <;> simp [Op.eqFields, go_sem, eqS, eqL, h53, hq, e1, e2, e3]
theorem eq57 (W : World) (a b : It) : (Op.equalIn 10000 43 (itV a) (itV b)).run Tryz.prog W = .ok (sameI a b) W := by
  have hS : Tryz.prog.underlying 43 = some (.struct (Tryz.prog.fieldsOf 43)) := by kernel_rfl
  have hp : Tryz.prog.stoodInHeld 43 = false := by kernel_rfl
  have h51 : ∀ W (k l : ByteArray) (a b v x : Int), (Op.equalIn 9999 41 (.agg #[.string k, .int .i64 a, .int .i64 v]) (.agg #[.string l, .int .i64 b, .int .i64 x])).run Tryz.prog W = .ok (k.toList == l.toList && (a == b && v == x)) W := fun W => eq51 W 9997
  have h55 : ∀ W (k l : ByteArray) (lo hi n v lo' hi' n' v' : Int),
    (Op.equalIn 9999 37 (.agg #[.int .i64 lo, .int .i64 hi, .string k, .int .i64 n, .int .i64 v]) (.agg #[.int .i64 lo', .int .i64 hi', .string l, .int .i64 n', .int .i64 v'])).run Tryz.prog W
      = .ok ((lo == lo' && hi == hi') && (k.toList == l.toList && (n == n' && v == v'))) W := fun W => eq55 W 9996
  have hI : ∀ W (a b : Int), (Op.equalIn 9999 3 (.int .i64 a) (.int .i64 b)).run Tryz.prog W = .ok (a == b) W := fun W => eqI W 9998
  have hL : ∀ W (a b : Int), (Op.equalIn 9999 2 (.int .i64 a) (.int .i64 b)).run Tryz.prog W = .ok (a == b) W := fun W => eqL W 9998
  unfold itV sameI
  rw [show (10000 : Nat) = 9999 + 1 from rfl, run_equalIn_agg W _ 43 _ _ hS hp]
  simp only [Program.fieldsOf, Tryz.underlying43]
  obtain ⟨q, hq⟩ : ∃ q, (a.ek.toList == b.ek.toList && (a.ea == b.ea && a.ev == b.ev)) = q := ⟨_, rfl⟩
  obtain ⟨r, hr⟩ : ∃ r, ((a.lo == b.lo && a.hi == b.hi) && (a.rk.toList == b.rk.toList && (a.rn == b.rn && a.rv == b.rv))) = r := ⟨_, rfl⟩
  cases q <;> cases r <;> by_cases e1 : a.kind = b.kind <;> by_cases e2 : a.ma = b.ma <;> by_cases e3 : a.n = b.n <;> simp [Op.eqFields, go_sem, hI, hL, h51, h55, hq, hr, e1, e2, e3]
theorem bel_alloc {w w' : World} (h : Below w.heap.size w w') (o : Obj) : Below w.heap.size w (w'.alloc o) := h.alloc h.size _
set_option maxHeartbeats 1000000 in
set_option maxRecDepth 100000 in
theorem bare1 (kind : Int) (ek : ByteArray) (ea ev ma n lo hi : Int) (rk : ByteArray) (rn rv : Int) (w : World) (b : Bool) (h : kind = 1) (hb : evB ek ea = b) :
    Calls Tryz.prog 66 #[.agg #[.int .i64 kind, .string ek, .int .i64 ea, .int .i64 ev, .int .i64 ma, .int .i64 n, .int .i64 lo, .int .i64 hi, .string rk, .int .i64 rn, .int .i64 rv]] w fun e w' => e = .returned (.tuple #[.agg #[.int .i64 1, .string ek, .int .i64 ea, .int .i64 ev, .int .i64 0, .int .i64 0, .int .i64 0, .int .i64 0, .string ⟨#[]⟩, .int .i64 0, .int .i64 0], .bool b]) ∧ Below w.heap.size w w' := by
  subst h
  have Hb := Lib.hid hb
  clear hb
  go_enter Tryz.func66, Tryz.ntmps66
  go_wp2_with fail
  go_region_with (first | (go_at_call 87; refine (event_any ek ea ev _ b Hb.out).mono ?_; rintro e w2 ⟨rfl, rfl⟩))
  all_goals go_wp2_with fail
  all_goals exact bodyPost_ret (v := .tuple #[.agg #[.int .i64 1, .string ek, .int .i64 ea, .int .i64 ev, .int .i64 0, .int .i64 0, .int .i64 0, .int .i64 0, .string ⟨#[]⟩, .int .i64 0, .int .i64 0], .bool b]) (by simp [results, Tryz.results66, go_sem]) rfl ⟨rfl, by repeat' (first | exact Below.refl _ _ | assumption | refine Below.drew ?_ | refine Below.setCell ?_ (by show w.heap.size ≤ _; simp; try omega) _ | refine bel_alloc ?_ _)⟩
set_option maxHeartbeats 1000000 in
set_option maxRecDepth 100000 in
theorem bare2 (kind : Int) (ek : ByteArray) (ea ev ma n lo hi : Int) (rk : ByteArray) (rn rv : Int) (w : World) (b : Bool) (h : kind = 2) (hb : (decide (0 ≤ ma) && decide (ma ≤ 1099511627776)) = b) :
    Calls Tryz.prog 66 #[.agg #[.int .i64 kind, .string ek, .int .i64 ea, .int .i64 ev, .int .i64 ma, .int .i64 n, .int .i64 lo, .int .i64 hi, .string rk, .int .i64 rn, .int .i64 rv]] w fun e w' => e = .returned (.tuple #[.agg #[.int .i64 2, .string ⟨#[]⟩, .int .i64 0, .int .i64 0, .int .i64 ma, .int .i64 0, .int .i64 0, .int .i64 0, .string ⟨#[]⟩, .int .i64 0, .int .i64 0], .bool b]) ∧ Below w.heap.size w w' := by
  subst h
  by_cases h0 : 0 ≤ ma
  · rw [decide_eq_true h0, Bool.true_and] at hb
    subst hb
    have g0 := decide_eq_true h0
    go_enter Tryz.func66, Tryz.ntmps66
    go_wp2_with fail
    go_region
    go_wp2_with fail
    exact bodyPost_ret (v := .tuple #[.agg #[.int .i64 2, .string ⟨#[]⟩, .int .i64 0, .int .i64 0, .int .i64 ma, .int .i64 0, .int .i64 0, .int .i64 0, .string ⟨#[]⟩, .int .i64 0, .int .i64 0], .bool (decide (ma ≤ 1099511627776))]) (by simp [results, Tryz.results66, go_sem]) rfl ⟨rfl, by repeat' (first | exact Below.refl _ _ | assumption | refine Below.drew ?_ | refine Below.setCell ?_ (by show w.heap.size ≤ _; simp; try omega) _ | refine bel_alloc ?_ _)⟩
  · rw [decide_eq_false h0, Bool.false_and] at hb
    subst hb
    have g0 := decide_eq_false h0
    go_enter Tryz.func66, Tryz.ntmps66
    go_wp2_with fail
    go_region
    go_wp2_with fail
    exact bodyPost_ret (v := .tuple #[.agg #[.int .i64 2, .string ⟨#[]⟩, .int .i64 0, .int .i64 0, .int .i64 ma, .int .i64 0, .int .i64 0, .int .i64 0, .string ⟨#[]⟩, .int .i64 0, .int .i64 0], .bool false]) (by simp [results, Tryz.results66, go_sem]) rfl ⟨rfl, by repeat' (first | exact Below.refl _ _ | assumption | refine Below.drew ?_ | refine Below.setCell ?_ (by show w.heap.size ≤ _; simp; try omega) _ | refine bel_alloc ?_ _)⟩
set_option maxHeartbeats 1000000 in
set_option maxRecDepth 100000 in
theorem bare3 (kind : Int) (ek : ByteArray) (ea ev ma n lo hi : Int) (rk : ByteArray) (rn rv : Int) (w : World) (b : Bool) (h : kind = 3) (hb : true = b) :
    Calls Tryz.prog 66 #[.agg #[.int .i64 kind, .string ek, .int .i64 ea, .int .i64 ev, .int .i64 ma, .int .i64 n, .int .i64 lo, .int .i64 hi, .string rk, .int .i64 rn, .int .i64 rv]] w fun e w' => e = .returned (.tuple #[.agg #[.int .i64 3, .string ⟨#[]⟩, .int .i64 0, .int .i64 0, .int .i64 0, .int .i64 0, .int .i64 0, .int .i64 0, .string ⟨#[]⟩, .int .i64 0, .int .i64 0], .bool b]) ∧ Below w.heap.size w w' := by
  subst h
  subst hb
  go_enter Tryz.func66, Tryz.ntmps66
  go_wp2_with fail
  exact bodyPost_ret (v := .tuple #[.agg #[.int .i64 3, .string ⟨#[]⟩, .int .i64 0, .int .i64 0, .int .i64 0, .int .i64 0, .int .i64 0, .int .i64 0, .string ⟨#[]⟩, .int .i64 0, .int .i64 0], .bool true]) (by simp [results, Tryz.results66, go_sem]) rfl ⟨rfl, by repeat' (first | exact Below.refl _ _ | assumption | refine Below.drew ?_ | refine Below.setCell ?_ (by show w.heap.size ≤ _; simp; try omega) _ | refine bel_alloc ?_ _)⟩
set_option maxHeartbeats 1000000 in
set_option maxRecDepth 100000 in
theorem bare4 (kind : Int) (ek : ByteArray) (ea ev ma n lo hi : Int) (rk : ByteArray) (rn rv : Int) (w : World) (b : Bool) (h : kind = 4) (hb : (decide (1 ≤ n) && decide (n ≤ 1073741824)) = b) :
    Calls Tryz.prog 66 #[.agg #[.int .i64 kind, .string ek, .int .i64 ea, .int .i64 ev, .int .i64 ma, .int .i64 n, .int .i64 lo, .int .i64 hi, .string rk, .int .i64 rn, .int .i64 rv]] w fun e w' => e = .returned (.tuple #[.agg #[.int .i64 4, .string ⟨#[]⟩, .int .i64 0, .int .i64 0, .int .i64 0, .int .i64 n, .int .i64 0, .int .i64 0, .string ⟨#[]⟩, .int .i64 0, .int .i64 0], .bool b]) ∧ Below w.heap.size w w' := by
  subst h
  by_cases h0 : 1 ≤ n
  · rw [decide_eq_true h0, Bool.true_and] at hb
    subst hb
    have g0 := decide_eq_true h0
    go_enter Tryz.func66, Tryz.ntmps66
    go_wp2_with fail
    go_region
    go_wp2_with fail
    exact bodyPost_ret (v := .tuple #[.agg #[.int .i64 4, .string ⟨#[]⟩, .int .i64 0, .int .i64 0, .int .i64 0, .int .i64 n, .int .i64 0, .int .i64 0, .string ⟨#[]⟩, .int .i64 0, .int .i64 0], .bool (decide (n ≤ 1073741824))]) (by simp [results, Tryz.results66, go_sem]) rfl ⟨rfl, by repeat' (first | exact Below.refl _ _ | assumption | refine Below.drew ?_ | refine Below.setCell ?_ (by show w.heap.size ≤ _; simp; try omega) _ | refine bel_alloc ?_ _)⟩
  · rw [decide_eq_false h0, Bool.false_and] at hb
    subst hb
    have g0 := decide_eq_false h0
    go_enter Tryz.func66, Tryz.ntmps66
    go_wp2_with fail
    go_region
    go_wp2_with fail
    exact bodyPost_ret (v := .tuple #[.agg #[.int .i64 4, .string ⟨#[]⟩, .int .i64 0, .int .i64 0, .int .i64 0, .int .i64 n, .int .i64 0, .int .i64 0, .string ⟨#[]⟩, .int .i64 0, .int .i64 0], .bool false]) (by simp [results, Tryz.results66, go_sem]) rfl ⟨rfl, by repeat' (first | exact Below.refl _ _ | assumption | refine Below.drew ?_ | refine Below.setCell ?_ (by show w.heap.size ≤ _; simp; try omega) _ | refine bel_alloc ?_ _)⟩
set_option maxHeartbeats 1000000 in
set_option maxRecDepth 100000 in
theorem bare5 (kind : Int) (ek : ByteArray) (ea ev ma n lo hi : Int) (rk : ByteArray) (rn rv : Int) (w : World) (b : Bool) (h : kind = 5) (hb : resB lo hi rk rn = b) :
    Calls Tryz.prog 66 #[.agg #[.int .i64 kind, .string ek, .int .i64 ea, .int .i64 ev, .int .i64 ma, .int .i64 n, .int .i64 lo, .int .i64 hi, .string rk, .int .i64 rn, .int .i64 rv]] w fun e w' => e = .returned (.tuple #[.agg #[.int .i64 5, .string ⟨#[]⟩, .int .i64 0, .int .i64 0, .int .i64 0, .int .i64 0, .int .i64 lo, .int .i64 hi, .string rk, .int .i64 rn, .int .i64 rv], .bool b]) ∧ Below w.heap.size w w' := by
  subst h
  have Hb := Lib.hid hb
  clear hb
  go_enter Tryz.func66, Tryz.ntmps66
  go_wp2_with fail
  go_region_with (first | (go_at_call 97; refine (result_any lo hi rk rn rv _ b Hb.out).mono ?_; rintro e w2 ⟨rfl, rfl⟩))
  all_goals go_wp2_with fail
  all_goals exact bodyPost_ret (v := .tuple #[.agg #[.int .i64 5, .string ⟨#[]⟩, .int .i64 0, .int .i64 0, .int .i64 0, .int .i64 0, .int .i64 lo, .int .i64 hi, .string rk, .int .i64 rn, .int .i64 rv], .bool b]) (by simp [results, Tryz.results66, go_sem]) rfl ⟨rfl, by repeat' (first | exact Below.refl _ _ | assumption | refine Below.drew ?_ | refine Below.setCell ?_ (by show w.heap.size ≤ _; simp; try omega) _ | refine bel_alloc ?_ _)⟩
set_option maxHeartbeats 1000000 in
set_option maxRecDepth 100000 in
theorem bare6 (kind : Int) (ek : ByteArray) (ea ev ma n lo hi : Int) (rk : ByteArray) (rn rv : Int) (w : World) (b : Bool) (h : ¬ (1 ≤ kind ∧ kind ≤ 5)) (hb : false = b) :
    Calls Tryz.prog 66 #[.agg #[.int .i64 kind, .string ek, .int .i64 ea, .int .i64 ev, .int .i64 ma, .int .i64 n, .int .i64 lo, .int .i64 hi, .string rk, .int .i64 rn, .int .i64 rv]] w fun e w' => e = .returned (.tuple #[.agg #[.int .i64 kind, .string ⟨#[]⟩, .int .i64 0, .int .i64 0, .int .i64 0, .int .i64 0, .int .i64 0, .int .i64 0, .string ⟨#[]⟩, .int .i64 0, .int .i64 0], .bool b]) ∧ Below w.heap.size w w' := by
  have k1 : (kind == (1 : Int)) = false := beq_eq_false_iff_ne.2 (by omega)
  have k2 : (kind == (2 : Int)) = false := beq_eq_false_iff_ne.2 (by omega)
  have k3 : (kind == (3 : Int)) = false := beq_eq_false_iff_ne.2 (by omega)
  have k4 : (kind == (4 : Int)) = false := beq_eq_false_iff_ne.2 (by omega)
  have k5 : (kind == (5 : Int)) = false := beq_eq_false_iff_ne.2 (by omega)
  clear h
  subst hb
  go_enter Tryz.func66, Tryz.ntmps66
  go_wp2_with fail
  exact bodyPost_ret (v := .tuple #[.agg #[.int .i64 kind, .string ⟨#[]⟩, .int .i64 0, .int .i64 0, .int .i64 0, .int .i64 0, .int .i64 0, .int .i64 0, .string ⟨#[]⟩, .int .i64 0, .int .i64 0], .bool false]) (by simp [results, Tryz.results66, go_sem]) rfl ⟨rfl, by repeat' (first | exact Below.refl _ _ | assumption | refine Below.drew ?_ | refine Below.setCell ?_ (by show w.heap.size ≤ _; simp; try omega) _ | refine bel_alloc ?_ _)⟩
theorem bcellI {W w1 : World} (hb : Below W.heap.size W w1) : (∀ b o, b < W.heap.size → w1.cell? ⟨b, o, none⟩ = W.cell? ⟨b, o, none⟩) ∧ (∀ b o, b < W.heap.size → w1.frozen? ⟨b, o, none⟩ = W.frozen? ⟨b, o, none⟩) :=
  ⟨fun b o h => hb.cell (p := ⟨b, o, none⟩) h, fun b o h => hb.frozen (p := ⟨b, o, none⟩) h⟩
theorem new_cellI (W : World) (cs : Array Value) (T : TypeId) (f : Nat × Nat) (j : Nat) : (W.alloc (.cells cs T f)).cell? ⟨W.heap.size, j, none⟩ = cs[j]? := by
  have h : (W.alloc (.cells cs T f)).heap[W.heap.size]? = some (.cells cs T f) := heap_alloc_new _ _
  exact Lib.cell_of_heap h j
theorem bare_any (i : It) (w : World) : Calls Tryz.prog 66 #[itV i] w fun e w' => e = .returned (.tuple #[itV (bareI i), .bool (bareB i)]) ∧ Below w.heap.size w w' := by
  obtain ⟨kind, ek, ea, ev, ma, n, lo, hi, rk, rn, rv⟩ := i
  by_cases h1 : kind = 1
  · have h := bare1 kind ek ea ev ma n lo hi rk rn rv w _ h1 rfl
    subst h1; exact h
  by_cases h2 : kind = 2
  · have h := bare2 kind ek ea ev ma n lo hi rk rn rv w _ h2 rfl
    subst h2; exact h
  by_cases h3 : kind = 3
  · have h := bare3 kind ek ea ev ma n lo hi rk rn rv w _ h3 rfl
    subst h3; exact h
  by_cases h4 : kind = 4
  · have h := bare4 kind ek ea ev ma n lo hi rk rn rv w _ h4 rfl
    subst h4; exact h
  by_cases h5 : kind = 5
  · have h := bare5 kind ek ea ev ma n lo hi rk rn rv w _ h5 rfl
    subst h5; exact h
  have h := bare6 kind ek ea ev ma n lo hi rk rn rv w _ (by omega) rfl
  unfold bareI bareB
  simp only [if_neg h1, if_neg h2, if_neg h3, if_neg h4, if_neg h5]
  exact h
theorem hbel2 {w w2 : World} {o : Obj} (h : Below (w.alloc o).heap.size (w.alloc o) w2) (o2 : Obj) (_ : Unit) : Below w.heap.size w (w2.alloc o2) :=
  bel_alloc ((bel_alloc (Below.refl _ _) o).trans (h.mono (bel_alloc (Below.refl _ _) o).size)) o2
set_option maxHeartbeats 1000000 in
set_option maxRecDepth 100000 in
theorem right_any (i : It) (w : World) (b : Bool) (hb : rightI i = b) : Calls Tryz.prog 24 #[itV i] w fun e w' => e = .returned (.bool b) ∧ Below w.heap.size w w' := by
  unfold rightI at hb
  have hB := fun W => bare_any i W
  obtain ⟨q, hq⟩ : ∃ q, bareB i = q := ⟨_, rfl⟩
  obtain ⟨j, hj⟩ : ∃ j, bareI i = j := ⟨_, rfl⟩
  rw [hq, hj] at hb hB
  have hE := fun W => eq57 W j i
  obtain ⟨S, hS⟩ : ∃ S, sameI j i = S := ⟨_, rfl⟩
  rw [hS] at hb hE
  clear hS hq hj
  obtain ⟨kind, ek, ea, ev, ma, n, lo, hi, rk, rn, rv⟩ := i
  obtain ⟨kind', ek', ea', ev', ma', n', lo', hi', rk', rn', rv'⟩ := j
  unfold itV at hB hE ⊢
  simp only at hB hE ⊢
  have HB := Lib.hid hB
  clear hB
  go_enter Tryz.func24, Tryz.ntmps24
  go_wp2_with fail
  refine (HB.out _).mono ?_
  rintro e w2 ⟨rfl, hb2⟩
  obtain ⟨hbc, hbf⟩ := bcellI hb2
  have hsz : w.heap.size < w2.heap.size := by have := hb2.size; simp at this; omega
  have hc := fun o => (hbc w.heap.size o (by simp)).trans (new_cellI w _ 43 _ o)
  have c0 := hc 0
  have c1 := hc 1
  have c2 := hc 2
  have c3 := hc 3
  have c4 := hc 4
  have c5 := hc 5
  have c6 := hc 6
  have c7 := hc 7
  have c8 := hc 8
  have c9 := hc 9
  have c10 := hc 10
  clear hbc hbf hc
  simp at c0 c1 c2 c3 c4 c5 c6 c7 c8 c9 c10
  cases q with
  | false =>
    rw [Bool.false_and] at hb
    subst hb
    go_wp2_with fail
    go_ret
    exact ⟨rfl, hbel2 hb2 _ ()⟩
  | true =>
    rw [Bool.true_and] at hb
    subst hb
    go_wp2_with fail
    go_ret
    exact ⟨rfl, hbel2 hb2 _ ()⟩
end Go.Proofs.YtlboehpgpbchhaaGreat.Itm
