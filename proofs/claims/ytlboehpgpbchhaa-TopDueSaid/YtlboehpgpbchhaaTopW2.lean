/-
  WALKS of the top laws: which events may be.
-/
import Derived.Test.YtlboehpgpbchhaaTopW1
set_option linter.unusedVariables false
set_option linter.unusedSimpArgs false
namespace Go.Proofs.Ytlboehpgpbchhaa
open Go.RowKit

def keyB (k : ByteArray) : Bool := !k.toList.isEmpty && decide (k.size ≤ 16)
theorem key_any (k : ByteArray) (w : World) (hk : k.size ≤ maxLen) : Calls Try.prog 107 #[.string k] w fun e w' => e = .returned (.bool (keyB k)) ∧ w' = w := by
  unfold maxLen at hk
  go_enter Try.func107, Try.ntmps107
  go_wp2
  all_goals
    go_ret
    refine ⟨congrArg (fun b => Ending.returned (Value.bool b)) (?_ : _ = keyB k), rfl⟩
    rw [Bool.eq_iff_iff]
    simp [keyB, *]
    try omega
/-- An event. -/
structure Ev where
  k : ByteArray
  t : Int
  v : Int
def Ev.cs (e : Ev) : List Value := [.string e.k, .int .i64 e.t, .int .i64 e.v]
def Ev.val (e : Ev) : Value := .agg #[.string e.k, .int .i64 e.t, .int .i64 e.v]
theorem Ev.cs_len (e : Ev) : e.cs.length = 3 := rfl
def Ev.Wf (e : Ev) : Prop := e.k.size ≤ maxLen ∧ (-9223372036854775808 ≤ e.t ∧ e.t ≤ 9223372036854775807) ∧ (-9223372036854775808 ≤ e.v ∧ e.v ≤ 9223372036854775807)
def evB (e : Ev) : Bool := keyB e.k && decide (0 ≤ e.t) && decide (e.t < 1099511627776)
theorem event_any (e : Ev) (w : World) (h : e.Wf) : Calls Try.prog 97 #[e.val] w fun r w' => r = .returned (.bool (evB e)) ∧ Below w.heap.size w w' := by
  obtain ⟨k, t, v⟩ := e
  have HK := Lib.hid (fun w => key_any k w h.1)
  obtain ⟨bk, hbk⟩ : ∃ b, keyB k = b := ⟨_, rfl⟩
  rw [hbk] at HK
  have HB := Lib.hid hbk
  unfold Ev.val
  simp only
  clear hbk h
  go_enter Try.func97, Try.ntmps97
  cases bk
  all_goals
    go_wp2_with (go_at_call 107; refine (HK.out _).mono ?_; rintro e w' ⟨rfl, rfl⟩)
  all_goals
    go_ret
    refine ⟨congrArg (fun b => Ending.returned (Value.bool b)) (?_ : _ = evB _), bel_alloc (Below.refl _ _) _⟩
    rw [Bool.eq_iff_iff]
    simp [evB, HB.out]
    try omega
theorem notev_any (e : Ev) (w : World) (h : e.Wf) (b : Bool) (hb : evB e = b) : Calls Try.prog 96 #[e.val] w fun r w' => r = .returned (.bool (!b)) ∧ Below w.heap.size w w' := by
  have HE := Lib.hid (fun w => event_any e w h)
  rw [hb] at HE
  obtain ⟨k, t, v⟩ := e
  unfold Ev.val at HE ⊢
  clear h hb
  go_enter Try.func96, Try.ntmps96
  go_wp2_with fail
  refine (HE.out _).mono ?_
  rintro e w' ⟨rfl, hb⟩
  have HB := Lib.hid (belA (Below.refl _ _) hb)
  clear hb
  go_wp2_with fail
  go_ret
  exact ⟨rfl, HB.out⟩
def evsB (l : List Ev) : Bool := l.all evB
def EiRel (l : List Ev) (w : World) (i : Value) (wr : World) : Prop := ∃ k : Nat, k ≤ l.length ∧ i = .int .i64 k ∧ evsB (l.take k) = true ∧ Below w.heap.size w wr
theorem evs_succ {l : List Ev} {k : Nat} {x : Ev} (h : l[k]? = some x) : evsB (l.take (k + 1)) = (evsB (l.take k) && evB x) := by
  unfold evsB
  rw [List.take_add_one, h]
  simp
theorem evs_not {l : List Ev} {k : Nat} {x : Ev} (h : l[k]? = some x) (hx : evB x = false) : evsB l = false := by
  unfold evsB
  rw [List.all_eq_false]
  exact ⟨x, List.mem_of_getElem? h, by simp [hx]⟩
set_option maxHeartbeats 1000000 in
theorem eindex_any (li : List Ev) (v : Value) (w : World) (hv : Row Ev.cs 3 w v li) (hl : li.length ≤ 200) (hwf : ∀ x ∈ li, x.Wf) :
    Calls Try.prog 106 #[v, .func (.func 96) #[] #[]] w fun e w' => ∃ r : Int, e = .returned (.int .i64 r) ∧ decide (0 ≤ r) = (!evsB li) ∧ Below w.heap.size w w' := by
  have HV := Lib.hid hv
  have HWF := Lib.hid hwf
  obtain ⟨A, c, rfl, hc, hA⟩ := hv
  have HA := Lib.hid hA
  clear hA hwf
  obtain ⟨n, hn⟩ : ∃ n, li.length = n := ⟨_, rfl⟩
  rw [hn] at hl hc HV ⊢
  have Hn := Lib.hid hn
  clear hn
  go_enter Try.func106, Try.ntmps106
  go_wp2_with fail
  go_loopw [8] (fun i wr => EiRel li w i wr) (fun i _ => n - (intOf i).toNat)
  case atStart => exact ⟨0, Nat.zero_le _, rfl, rfl, Below.refl _ _⟩
  case round =>
    obtain ⟨k, hk, rfl, hall, hbel⟩ := hrel
    rw [Hn.out] at hk
    have HB := Lib.hid hbel
    have HL := Lib.hid hall
    clear hbel hall
    by_cases hlt : k < n
    · obtain ⟨x, hi⟩ : ∃ x, li[k]? = some x := ⟨_, List.getElem?_eq_getElem (by rw [Hn.out]; exact hlt)⟩
      obtain ⟨b, o, rfl, hb, hX⟩ := HA.out (by rw [Hn.out]; omega)
      have c0 := (HB.out.cell (p := ⟨b, o + k * 3 + 0, none⟩) hb).trans (hX k x 0 _ hi rfl)
      have c1 := (HB.out.cell (p := ⟨b, o + k * 3 + 1, none⟩) hb).trans (hX k x 1 _ hi rfl)
      have c2 := (HB.out.cell (p := ⟨b, o + k * 3 + 2, none⟩) hb).trans (hX k x 2 _ hi rfl)
      clear hX
      have hwx := HWF.out x (List.mem_of_getElem? hi)
      obtain ⟨q, hq⟩ : ∃ q, evB x = q := ⟨_, rfl⟩
      have HP := Lib.hid (fun W => notev_any x W hwx q hq)
      have HX := Lib.hid hq
      have HI := Lib.hid hi
      obtain ⟨ek, et, ev⟩ := x
      unfold Ev.val at HP
      simp only [Nat.add_zero] at c0 c1 c2 HP
      clear hq hi hwx
      go_wp2_with fail
      refine (HP.out _).mono ?_
      rintro e w2 ⟨rfl, hb2⟩
      have HB2 := Lib.hid (bThen HB.out hb2)
      clear hb2 HB c0 c1 c2
      cases q with
      | true =>
        go_wp2_with fail
        go_roundw
        case rel => exact ⟨k + 1, by rw [Hn.out]; omega, by go_num, by rw [evs_succ HI.out, HL.out, HX.out]; rfl, HB2.out⟩
        case measure => simp [intOf]; omega
      | false =>
        go_wp2_with fail
        go_ret
        exact ⟨_, rfl, by rw [evs_not HI.out HX.out]; simp, HB2.out⟩
    · have hkn : k = n := by omega
      subst hkn
      go_wp2_with fail
      go_ret
      have := HL.out
      rw [← Hn.out, List.take_length] at this
      exact ⟨_, rfl, by rw [this]; decide, HB.out⟩
theorem econt_any (li : List Ev) (v : Value) (w : World) (hv : Row Ev.cs 3 w v li) (hl : li.length ≤ 200) (hwf : ∀ x ∈ li, x.Wf) :
    Calls Try.prog 95 #[v, .func (.func 96) #[] #[]] w fun e w' => e = .returned (.bool (!evsB li)) ∧ Below w.heap.size w w' := by
  have HI := Lib.hid (eindex_any li v w hv hl hwf)
  obtain ⟨A, c, rfl, -, -⟩ := hv
  go_enter Try.func95, Try.ntmps95
  go_wp2_with fail
  refine (HI.out).mono ?_
  rintro e w2 ⟨r, rfl, hr, hb2⟩
  have HR := Lib.hid hr
  have HB2 := Lib.hid hb2
  clear hr hb2
  go_wp2_with fail
  go_ret
  exact ⟨by rw [← HR.out]; rfl, HB2.out⟩
/-- May the events of a source be? -/
def inB (l : List Ev) : Bool := decide (l.length ≤ 200) && evsB l
theorem notin_any (li : List Ev) (v : Value) (w : World) (hv : Row Ev.cs 3 w v li) (hwf : ∀ x ∈ li, x.Wf) (hm : li.length ≤ maxLen) (b : Bool) (hb : inB li = b) :
    Calls Try.prog 94 #[v] w fun e w' => e = .returned (.bool (!b)) ∧ Below w.heap.size w w' := by
  subst hb
  have HV := Lib.hid hv
  have HC := Lib.hid (fun h => econt_any li v w hv h hwf)
  obtain ⟨A, c, rfl, -, -⟩ := hv
  unfold maxLen at hm
  obtain ⟨n, hn⟩ : ∃ n, li.length = n := ⟨_, rfl⟩
  have HN := Lib.hid hn
  rw [hn] at hm HC ⊢
  clear hn
  by_cases h : n ≤ 200
  · obtain ⟨q, hq⟩ : ∃ q, evsB li = q := ⟨_, rfl⟩
    rw [hq] at HC
    have HQ := Lib.hid hq
    have hd : decide ((200 : Int) < (n : Int)) = false := decide_eq_false (by omega)
    have hn : ¬ 200 < n := by omega
    clear hq
    go_enter Try.func94, Try.ntmps94
    go_wp2_with fail
    refine (HC.out h).mono ?_
    rintro e w' ⟨rfl, hb⟩
    have HB := Lib.hid hb
    clear hb
    go_wp2_with fail
    go_ret
    exact ⟨by unfold inB; rw [HN.out, HQ.out, decide_eq_true h]; rfl, HB.out⟩
  · have hd : decide ((200 : Int) < (n : Int)) = true := decide_eq_true (by omega)
    have hn : 200 < n := by omega
    go_enter Try.func94, Try.ntmps94
    go_wp2_with fail
    go_ret
    exact ⟨by unfold inB; rw [HN.out, decide_eq_false h]; simp, Below.refl _ _⟩
end Go.Proofs.Ytlboehpgpbchhaa
