/-
  WALKS: the texts -ItemW1, -ItemW2, -ItemW3, -ItemW4, -ItemW5, -ItemW6, -ItemW7, -ItemW8, -ItemW9, -ItemW10, -ItemW11, -ItemW12, -ItemW13, -ItemW14, ItemW15, ItemW16, ItemW17, ItemW18, ItemW19, ItemGetP, ItemL1, ItemW20, ItemL2, but for what speaks of functions that are not here (progonly.py).
-/
import Derived.Test.YtlboehpgpbchhaaGreatItT2
import Derived.Test.YtlboehpgpbchhaaGreatVlqLT
import Derived.Lib.Hide
set_option linter.unusedVariables false
set_option linter.unusedSimpArgs false
namespace Go.Proofs.YtlboehpgpbchhaaGreat.Itm
open Go.RowKit
/-- The reader at block g (of type T) stands at at', with bad'; nothing else that stood has changed. -/
def ReadTo (g : Nat) (T : TypeId) (s : ByteArray) (at' bad' : Int) (w w' : World) : Prop :=
  w'.heap[g]? = some (.cells #[.string s, .int .i64 at', .int .i64 bad'] T (0, 0)) ∧ (∀ k, k ≠ g → w'.heap[k]? = w.heap[k]?) ∧ w'.os = w.os ∧ w'.tape = w.tape ∧ w'.output = w.output ∧ w'.heap.size = w.heap.size
theorem readTo_same {g : Nat} {T : TypeId} {s : ByteArray} {a b : Int} {w : World} (hg : w.heap[g]? = some (.cells #[.string s, .int .i64 a, .int .i64 b] T (0, 0))) : ReadTo g T s a b w w :=
  ⟨hg, fun _ _ => rfl, rfl, rfl, rfl, rfl⟩
theorem readTo_at {g : Nat} {T : TypeId} {s : ByteArray} {a b : Int} {w : World} (hg : w.heap[g]? = some (.cells #[.string s, .int .i64 a, .int .i64 b] T (0, 0))) (a' : Int) :
    ReadTo g T s a' b w (w.drew.setCell ⟨g, 1, none⟩ (.int .i64 a')) := by
  have hg' : w.drew.heap[g]? = some (.cells #[.string s, .int .i64 a, .int .i64 b] T (0, 0)) := hg
  refine ⟨?_, fun k hk => Below.heap_setCell w.drew ⟨g, 1, none⟩ _ k hk, rfl, rfl, rfl, ?_⟩
  · simp [World.setCell, Array.getElem?_modify, hg']
  · simp [World.setCell]
theorem readTo_bad {g : Nat} {T : TypeId} {s : ByteArray} {a b : Int} {w : World} (hg : w.heap[g]? = some (.cells #[.string s, .int .i64 a, .int .i64 b] T (0, 0))) (b' : Int) :
    ReadTo g T s a b' w (w.drew.setCell ⟨g, 2, none⟩ (.int .i64 b')) := by
  have hg' : w.drew.heap[g]? = some (.cells #[.string s, .int .i64 a, .int .i64 b] T (0, 0)) := hg
  refine ⟨?_, fun k hk => Below.heap_setCell w.drew ⟨g, 2, none⟩ _ k hk, rfl, rfl, rfl, ?_⟩
  · simp [World.setCell, Array.getElem?_modify, hg']
  · simp [World.setCell]
set_option maxHeartbeats 1000000 in
theorem field_num (g : Nat) (s : ByteArray) (a : Int) (w : World) (n : Nat) (tq er : Int) (hg : w.heap[g]? = some (.cells #[.string s, .int .i64 a, .int .i64 0] 101 (0, 0))) (hs : s.size ≤ 9223372036854775807)
    (hr : getR s.data.toList a = (n, tq, er)) :
    Calls Tryz.prog 69 #[.pointer (some ⟨g, 0, none⟩), .func (.func 55) #[] #[]] w fun e w' =>
      if er = 0 then e = .returned (.int .i64 n) ∧ ReadTo g 101 s tq 0 w w' else e = .returned (.int .i64 0) ∧ ReadTo g 101 s a er w w' := by
  have c0 : w.cell? ⟨g, 0, none⟩ = some (.string s) := Lib.cell_of_heap hg 0
  have c1 : w.cell? ⟨g, 1, none⟩ = some (.int .i64 a) := Lib.cell_of_heap hg 1
  have c2 : w.cell? ⟨g, 2, none⟩ = some (.int .i64 0) := Lib.cell_of_heap hg 2
  have f1 : w.frozen? ⟨g, 1, none⟩ = false := by simp [World.frozen?, hg]
  have f2 : w.frozen? ⟨g, 2, none⟩ = false := by simp [World.frozen?, hg]
  have HG := Lib.hid (fun W => get_any s a W n tq er hs hr)
  have Hg := Lib.hid hg
  clear hr hg hs
  by_cases he : er = 0
  · subst he
    simp only [if_pos]
    go_enter Tryz.func69, Tryz.ntmps69
    go_wp2_with fail
    go_region_with (first | (go_at_call 55; refine (HG.out _).mono ?_; rintro e w2 ⟨rfl, rfl⟩))
    all_goals go_wp2_with fail
    all_goals go_ret
    all_goals exact ⟨rfl, readTo_at Hg.out _⟩
  · simp only [if_neg he]
    have hb : (er == 0) = false := beq_eq_false_iff_ne.2 he
    go_enter Tryz.func69, Tryz.ntmps69
    go_wp2_with fail
    go_region_with (first | (go_at_call 55; refine (HG.out _).mono ?_; rintro e w2 ⟨rfl, rfl⟩))
    all_goals go_wp2_with fail
    all_goals go_ret
    all_goals exact ⟨rfl, readTo_bad Hg.out _⟩
theorem readTo_both {g : Nat} {T : TypeId} {s : ByteArray} {a b : Int} {w : World} (hg : w.heap[g]? = some (.cells #[.string s, .int .i64 a, .int .i64 b] T (0, 0))) (a' b' : Int) :
    ReadTo g T s a' b' w ((w.drew.setCell ⟨g, 1, none⟩ (.int .i64 a')).setCell ⟨g, 2, none⟩ (.int .i64 b')) := by
  refine ⟨?_, fun k hk => (Below.heap_setCell _ ⟨g, 2, none⟩ _ k hk).trans (Below.heap_setCell w.drew ⟨g, 1, none⟩ _ k hk), rfl, rfl, rfl, ?_⟩
  · have hg' : w.drew.heap[g]? = some (.cells #[.string s, .int .i64 a, .int .i64 b] T (0, 0)) := hg
    simp [World.setCell, Array.getElem?_modify, hg']
  · simp [World.setCell]
theorem field_num_skip (g : Nat) (s : ByteArray) (a b : Int) (w : World) (hg : w.heap[g]? = some (.cells #[.string s, .int .i64 a, .int .i64 b] 101 (0, 0))) (hb : b ≠ 0) :
    Calls Tryz.prog 69 #[.pointer (some ⟨g, 0, none⟩), .func (.func 55) #[] #[]] w fun e w' => e = .returned (.int .i64 0) ∧ w = w' := by
  have c2 : w.cell? ⟨g, 2, none⟩ = some (.int .i64 b) := Lib.cell_of_heap hg 2
  have hb' : (b == 0) = false := beq_eq_false_iff_ne.2 hb
  clear hg
  go_enter Tryz.func69, Tryz.ntmps69
  go_wp2_with fail
  go_ret
  exact ⟨rfl, rfl⟩
theorem field_sgn_skip (g : Nat) (s : ByteArray) (a b : Int) (w : World) (hg : w.heap[g]? = some (.cells #[.string s, .int .i64 a, .int .i64 b] 101 (0, 0))) (hb : b ≠ 0) :
    Calls Tryz.prog 69 #[.pointer (some ⟨g, 0, none⟩), .func (.func 56) #[] #[]] w fun e w' => e = .returned (.int .i64 0) ∧ w = w' := by
  have c2 : w.cell? ⟨g, 2, none⟩ = some (.int .i64 b) := Lib.cell_of_heap hg 2
  have hb' : (b == 0) = false := beq_eq_false_iff_ne.2 hb
  clear hg
  go_enter Tryz.func69, Tryz.ntmps69
  go_wp2_with fail
  go_ret
  exact ⟨rfl, rfl⟩
set_option maxHeartbeats 1000000 in
theorem field_sgn (g : Nat) (s : ByteArray) (a : Int) (w : World) (n : Nat) (tq er : Int) (hg : w.heap[g]? = some (.cells #[.string s, .int .i64 a, .int .i64 0] 101 (0, 0))) (hs : s.size ≤ 140737488355328) (hr : gsR s.data.toList a = (n, tq, er)) :
    Calls Tryz.prog 69 #[.pointer (some ⟨g, 0, none⟩), .func (.func 56) #[] #[]] w fun e w' => if er = 0 then e = .returned (.int .i64 (unz n)) ∧ ReadTo g 101 s tq 0 w w' else e = .returned (.int .i64 0) ∧ ReadTo g 101 s a er w w' := by
  have c0 : w.cell? ⟨g, 0, none⟩ = some (.string s) := Lib.cell_of_heap hg 0
  have c1 : w.cell? ⟨g, 1, none⟩ = some (.int .i64 a) := Lib.cell_of_heap hg 1
  have c2 : w.cell? ⟨g, 2, none⟩ = some (.int .i64 0) := Lib.cell_of_heap hg 2
  have f1 : w.frozen? ⟨g, 1, none⟩ = false := by simp [World.frozen?, hg]
  have f2 : w.frozen? ⟨g, 2, none⟩ = false := by simp [World.frozen?, hg]
  have HG := Lib.hid (fun W => gets_any s a W n tq er (Nat.le_trans hs (by decide)) hr)
  obtain ⟨u, hu⟩ : ∃ u, unz n = u := ⟨_, rfl⟩
  rw [hu] at HG
  simp only [hu]
  clear hu
  have Hg := Lib.hid hg
  clear hr hg hs
  by_cases he : er = 0
  · subst he
    simp only [if_pos]
    go_enter Tryz.func69, Tryz.ntmps69
    go_wp2_with fail
    go_region_with (first | (go_at_call 56; refine (HG.out _).mono ?_; rintro e w2 ⟨rfl, rfl⟩))
    all_goals go_wp2_with fail
    all_goals go_ret
    all_goals exact ⟨rfl, readTo_at Hg.out _⟩
  · simp only [if_neg he]
    have hb : (er == 0) = false := beq_eq_false_iff_ne.2 he
    go_enter Tryz.func69, Tryz.ntmps69
    go_wp2_with fail
    go_region_with (first | (go_at_call 56; refine (HG.out _).mono ?_; rintro e w2 ⟨rfl, rfl⟩))
    all_goals go_wp2_with fail
    all_goals go_ret
    all_goals exact ⟨rfl, readTo_bad Hg.out _⟩
theorem field_txt_skip (g : Nat) (s : ByteArray) (a b : Int) (w : World) (hg : w.heap[g]? = some (.cells #[.string s, .int .i64 a, .int .i64 b] 101 (0, 0))) (hb : b ≠ 0) :
    Calls Tryz.prog 70 #[.pointer (some ⟨g, 0, none⟩), .func (.func 54) #[] #[]] w fun e w' => e = .returned (.string ⟨#[]⟩) ∧ w = w' := by
  have c2 : w.cell? ⟨g, 2, none⟩ = some (.int .i64 b) := Lib.cell_of_heap hg 2
  have hb' : (b == 0) = false := beq_eq_false_iff_ne.2 hb
  clear hg
  go_enter Tryz.func70, Tryz.ntmps70
  go_wp2_with fail
  go_ret
  exact ⟨rfl, rfl⟩
set_option maxHeartbeats 1000000 in
theorem field_txt (g : Nat) (s : ByteArray) (a : Int) (w : World) (x : ByteArray) (tq er : Int) (hg : w.heap[g]? = some (.cells #[.string s, .int .i64 a, .int .i64 0] 101 (0, 0))) (hs : s.size ≤ 140737488355328) (hr : gtR s a = (x, tq, er)) :
    Calls Tryz.prog 70 #[.pointer (some ⟨g, 0, none⟩), .func (.func 54) #[] #[]] w fun e w' => if er = 0 then e = .returned (.string x) ∧ ReadTo g 101 s tq 0 w w' else e = .returned (.string ⟨#[]⟩) ∧ ReadTo g 101 s a er w w' := by
  have c0 : w.cell? ⟨g, 0, none⟩ = some (.string s) := Lib.cell_of_heap hg 0
  have c1 : w.cell? ⟨g, 1, none⟩ = some (.int .i64 a) := Lib.cell_of_heap hg 1
  have c2 : w.cell? ⟨g, 2, none⟩ = some (.int .i64 0) := Lib.cell_of_heap hg 2
  have f1 : w.frozen? ⟨g, 1, none⟩ = false := by simp [World.frozen?, hg]
  have f2 : w.frozen? ⟨g, 2, none⟩ = false := by simp [World.frozen?, hg]
  have HG := Lib.hid (fun W => gett_any s a W x tq er (Nat.le_trans hs (by decide)) hr)
  have Hg := Lib.hid hg
  clear hr hg hs
  by_cases he : er = 0
  · subst he
    simp only [if_pos]
    go_enter Tryz.func70, Tryz.ntmps70
    go_wp2_with fail
    go_region_with (first | (go_at_call 54; refine (HG.out _).mono ?_; rintro e w2 ⟨rfl, rfl⟩))
    all_goals go_wp2_with fail
    all_goals go_ret
    all_goals exact ⟨rfl, readTo_at Hg.out _⟩
  · simp only [if_neg he]
    have hb : (er == 0) = false := beq_eq_false_iff_ne.2 he
    go_enter Tryz.func70, Tryz.ntmps70
    go_wp2_with fail
    go_region_with (first | (go_at_call 54; refine (HG.out _).mono ?_; rintro e w2 ⟨rfl, rfl⟩))
    all_goals go_wp2_with fail
    all_goals go_ret
    all_goals exact ⟨rfl, readTo_bad Hg.out _⟩
theorem read_num_skip (g : Nat) (s : ByteArray) (a b : Int) (w : World) (hg : w.heap[g]? = some (.cells #[.string s, .int .i64 a, .int .i64 b] 101 (0, 0))) (hb : b ≠ 0) :
    Calls Tryz.prog 36 #[.pointer (some ⟨g, 0, none⟩)] w fun e w' => e = .returned (.int .i64 0) ∧ w = w' := by
  have HC := Lib.hid (field_num_skip g s a b w hg hb)
  clear hg hb
  go_enter Tryz.func36, Tryz.ntmps36
  go_wp2_with fail
  refine HC.out.mono ?_
  rintro e w' ⟨rfl, rfl⟩
  go_wp2_with fail
  go_ret
  exact ⟨rfl, rfl⟩
theorem read_num_yes (g : Nat) (s : ByteArray) (a : Int) (w : World) (n : Nat) (tq : Int) (hg : w.heap[g]? = some (.cells #[.string s, .int .i64 a, .int .i64 0] 101 (0, 0))) (hs : s.size ≤ 140737488355328) (hr : getR s.data.toList a = (n, tq, 0)) :
    Calls Tryz.prog 36 #[.pointer (some ⟨g, 0, none⟩)] w fun e w' => e = .returned (.int .i64 n) ∧ ReadTo g 101 s tq 0 w w' := by
  have hc := field_num g s a w n tq 0 hg (Nat.le_trans hs (by decide)) hr
  simp only [if_pos] at hc
  have HC := Lib.hid hc
  clear hc hg hs hr
  go_enter Tryz.func36, Tryz.ntmps36
  go_wp2_with fail
  refine HC.out.mono ?_
  rintro e w' ⟨rfl, hw⟩
  have HW := Lib.hid hw
  clear hw
  go_wp2_with fail
  go_ret
  exact ⟨rfl, HW.out⟩
theorem read_num_no (g : Nat) (s : ByteArray) (a : Int) (w : World) (n : Nat) (tq er : Int) (hg : w.heap[g]? = some (.cells #[.string s, .int .i64 a, .int .i64 0] 101 (0, 0))) (hs : s.size ≤ 140737488355328) (hr : getR s.data.toList a = (n, tq, er)) (he : er ≠ 0) :
    Calls Tryz.prog 36 #[.pointer (some ⟨g, 0, none⟩)] w fun e w' => e = .returned (.int .i64 0) ∧ ReadTo g 101 s a er w w' := by
  have hc := field_num g s a w n tq er hg (Nat.le_trans hs (by decide)) hr
  simp only [if_neg he] at hc
  have HC := Lib.hid hc
  clear hc hg hs hr
  go_enter Tryz.func36, Tryz.ntmps36
  go_wp2_with fail
  refine HC.out.mono ?_
  rintro e w' ⟨rfl, hw⟩
  have HW := Lib.hid hw
  clear hw
  go_wp2_with fail
  go_ret
  exact ⟨rfl, HW.out⟩
theorem read_sgn_skip (g : Nat) (s : ByteArray) (a b : Int) (w : World) (hg : w.heap[g]? = some (.cells #[.string s, .int .i64 a, .int .i64 b] 101 (0, 0))) (hb : b ≠ 0) :
    Calls Tryz.prog 37 #[.pointer (some ⟨g, 0, none⟩)] w fun e w' => e = .returned (.int .i64 0) ∧ w = w' := by
  have HC := Lib.hid (field_sgn_skip g s a b w hg hb)
  clear hg hb
  go_enter Tryz.func37, Tryz.ntmps37
  go_wp2_with fail
  refine HC.out.mono ?_
  rintro e w' ⟨rfl, rfl⟩
  go_wp2_with fail
  go_ret
  exact ⟨rfl, rfl⟩
theorem read_sgn_yes (g : Nat) (s : ByteArray) (a : Int) (w : World) (n : Nat) (tq : Int) (hg : w.heap[g]? = some (.cells #[.string s, .int .i64 a, .int .i64 0] 101 (0, 0))) (hs : s.size ≤ 140737488355328) (hr : gsR s.data.toList a = (n, tq, 0)) :
    Calls Tryz.prog 37 #[.pointer (some ⟨g, 0, none⟩)] w fun e w' => e = .returned (.int .i64 (unz n)) ∧ ReadTo g 101 s tq 0 w w' := by
  have hc := field_sgn g s a w n tq 0 hg hs hr
  simp only [if_pos] at hc
  have HC := Lib.hid hc
  clear hc hg hs hr
  go_enter Tryz.func37, Tryz.ntmps37
  go_wp2_with fail
  refine HC.out.mono ?_
  rintro e w' ⟨rfl, hw⟩
  have HW := Lib.hid hw
  clear hw
  go_wp2_with fail
  go_ret
  exact ⟨rfl, HW.out⟩
theorem read_sgn_no (g : Nat) (s : ByteArray) (a : Int) (w : World) (n : Nat) (tq er : Int) (hg : w.heap[g]? = some (.cells #[.string s, .int .i64 a, .int .i64 0] 101 (0, 0))) (hs : s.size ≤ 140737488355328) (hr : gsR s.data.toList a = (n, tq, er)) (he : er ≠ 0) :
    Calls Tryz.prog 37 #[.pointer (some ⟨g, 0, none⟩)] w fun e w' => e = .returned (.int .i64 0) ∧ ReadTo g 101 s a er w w' := by
  have hc := field_sgn g s a w n tq er hg hs hr
  simp only [if_neg he] at hc
  have HC := Lib.hid hc
  clear hc hg hs hr
  go_enter Tryz.func37, Tryz.ntmps37
  go_wp2_with fail
  refine HC.out.mono ?_
  rintro e w' ⟨rfl, hw⟩
  have HW := Lib.hid hw
  clear hw
  go_wp2_with fail
  go_ret
  exact ⟨rfl, HW.out⟩
theorem read_txt_skip (g : Nat) (s : ByteArray) (a b : Int) (w : World) (hg : w.heap[g]? = some (.cells #[.string s, .int .i64 a, .int .i64 b] 101 (0, 0))) (hb : b ≠ 0) :
    Calls Tryz.prog 38 #[.pointer (some ⟨g, 0, none⟩)] w fun e w' => e = .returned (.string ⟨#[]⟩) ∧ w = w' := by
  have HC := Lib.hid (field_txt_skip g s a b w hg hb)
  clear hg hb
  go_enter Tryz.func38, Tryz.ntmps38
  go_wp2_with fail
  refine HC.out.mono ?_
  rintro e w' ⟨rfl, rfl⟩
  go_wp2_with fail
  go_ret
  exact ⟨rfl, rfl⟩
theorem read_txt_yes (g : Nat) (s : ByteArray) (a : Int) (w : World) (x : ByteArray) (tq : Int) (hg : w.heap[g]? = some (.cells #[.string s, .int .i64 a, .int .i64 0] 101 (0, 0))) (hs : s.size ≤ 140737488355328) (hr : gtR s a = (x, tq, 0)) :
    Calls Tryz.prog 38 #[.pointer (some ⟨g, 0, none⟩)] w fun e w' => e = .returned (.string x) ∧ ReadTo g 101 s tq 0 w w' := by
  have hc := field_txt g s a w x tq 0 hg hs hr
  simp only [if_pos] at hc
  have HC := Lib.hid hc
  clear hc hg hs hr
  go_enter Tryz.func38, Tryz.ntmps38
  go_wp2_with fail
  refine HC.out.mono ?_
  rintro e w' ⟨rfl, hw⟩
  have HW := Lib.hid hw
  clear hw
  go_wp2_with fail
  go_ret
  exact ⟨rfl, HW.out⟩
theorem read_txt_no (g : Nat) (s : ByteArray) (a : Int) (w : World) (x : ByteArray) (tq er : Int) (hg : w.heap[g]? = some (.cells #[.string s, .int .i64 a, .int .i64 0] 101 (0, 0))) (hs : s.size ≤ 140737488355328) (hr : gtR s a = (x, tq, er)) (he : er ≠ 0) :
    Calls Tryz.prog 38 #[.pointer (some ⟨g, 0, none⟩)] w fun e w' => e = .returned (.string ⟨#[]⟩) ∧ ReadTo g 101 s a er w w' := by
  have hc := field_txt g s a w x tq er hg hs hr
  simp only [if_neg he] at hc
  have HC := Lib.hid hc
  clear hc hg hs hr
  go_enter Tryz.func38, Tryz.ntmps38
  go_wp2_with fail
  refine HC.out.mono ?_
  rintro e w' ⟨rfl, hw⟩
  have HW := Lib.hid hw
  clear hw
  go_wp2_with fail
  go_ret
  exact ⟨rfl, HW.out⟩
/-- A number read: the value, where the reader stands, its first error. -/
def numP (s : ByteArray) (a b : Int) : Int × Int × Int :=
  if b ≠ 0 then (0, a, b) else match getR s.data.toList a with
    | (n, tq, er) => if er = 0 then ((n : Int), tq, 0) else (0, a, er)
def sgnP (s : ByteArray) (a b : Int) : Int × Int × Int :=
  if b ≠ 0 then (0, a, b) else match gsR s.data.toList a with
    | (n, tq, er) => if er = 0 then (unz n, tq, 0) else (0, a, er)
def txtP (s : ByteArray) (a b : Int) : ByteArray × Int × Int :=
  if b ≠ 0 then (⟨#[]⟩, a, b) else match gtR s a with
    | (x, tq, er) => if er = 0 then (x, tq, 0) else (⟨#[]⟩, a, er)
theorem read_num (g : Nat) (s : ByteArray) (a b v a' b' : Int) (w : World) (hg : w.heap[g]? = some (.cells #[.string s, .int .i64 a, .int .i64 b] 101 (0, 0))) (hs : s.size ≤ 140737488355328) (h : numP s a b = (v, a', b')) :
    Calls Tryz.prog 36 #[.pointer (some ⟨g, 0, none⟩)] w fun e w' => e = .returned (.int .i64 v) ∧ ReadTo g 101 s a' b' w w' := by
  unfold numP at h
  by_cases hb : b = 0
  · subst hb
    rw [if_neg (by simp)] at h
    obtain ⟨⟨n, tq, er⟩, hr⟩ : ∃ r, getR s.data.toList a = r := ⟨_, rfl⟩
    rw [hr] at h
    by_cases he : er = 0
    · subst he
      simp at h
      obtain ⟨rfl, rfl, rfl⟩ := h
      exact read_num_yes g s a w n tq hg hs hr
    · simp [he] at h
      obtain ⟨rfl, rfl, rfl⟩ := h
      exact read_num_no g s a w n tq er hg hs hr he
  · rw [if_pos hb] at h
    simp at h
    obtain ⟨rfl, rfl, rfl⟩ := h
    exact (read_num_skip g s a b w hg hb).mono fun _ _ ⟨h1, h2⟩ => ⟨h1, h2 ▸ readTo_same hg⟩
theorem read_sgn (g : Nat) (s : ByteArray) (a b v a' b' : Int) (w : World) (hg : w.heap[g]? = some (.cells #[.string s, .int .i64 a, .int .i64 b] 101 (0, 0))) (hs : s.size ≤ 140737488355328) (h : sgnP s a b = (v, a', b')) :
    Calls Tryz.prog 37 #[.pointer (some ⟨g, 0, none⟩)] w fun e w' => e = .returned (.int .i64 v) ∧ ReadTo g 101 s a' b' w w' := by
  unfold sgnP at h
  by_cases hb : b = 0
  · subst hb
    rw [if_neg (by simp)] at h
    obtain ⟨⟨n, tq, er⟩, hr⟩ : ∃ r, gsR s.data.toList a = r := ⟨_, rfl⟩
    rw [hr] at h
    by_cases he : er = 0
    · subst he
      simp at h
      obtain ⟨rfl, rfl, rfl⟩ := h
      exact read_sgn_yes g s a w n tq hg hs hr
    · simp [he] at h
      obtain ⟨rfl, rfl, rfl⟩ := h
      exact read_sgn_no g s a w n tq er hg hs hr he
  · rw [if_pos hb] at h
    simp at h
    obtain ⟨rfl, rfl, rfl⟩ := h
    exact (read_sgn_skip g s a b w hg hb).mono fun _ _ ⟨h1, h2⟩ => ⟨h1, h2 ▸ readTo_same hg⟩
theorem read_txt (g : Nat) (s : ByteArray) (a b : Int) (v : ByteArray) (a' b' : Int) (w : World) (hg : w.heap[g]? = some (.cells #[.string s, .int .i64 a, .int .i64 b] 101 (0, 0))) (hs : s.size ≤ 140737488355328) (h : txtP s a b = (v, a', b')) :
    Calls Tryz.prog 38 #[.pointer (some ⟨g, 0, none⟩)] w fun e w' => e = .returned (.string v) ∧ ReadTo g 101 s a' b' w w' := by
  unfold txtP at h
  by_cases hb : b = 0
  · subst hb
    rw [if_neg (by simp)] at h
    obtain ⟨⟨x, tq, er⟩, hr⟩ : ∃ r, gtR s a = r := ⟨_, rfl⟩
    rw [hr] at h
    by_cases he : er = 0
    · subst he
      simp at h
      obtain ⟨rfl, rfl, rfl⟩ := h
      exact read_txt_yes g s a w x tq hg hs hr
    · simp [he] at h
      obtain ⟨rfl, rfl, rfl⟩ := h
      exact read_txt_no g s a w x tq er hg hs hr he
  · rw [if_pos hb] at h
    simp at h
    obtain ⟨rfl, rfl, rfl⟩ := h
    exact (read_txt_skip g s a b w hg hb).mono fun _ _ ⟨h1, h2⟩ => ⟨h1, h2 ▸ readTo_same hg⟩
def rnumP (s : ByteArray) (a b : Int) : Int × Int × Int :=
  if b ≠ 0 then (0, a, b) else match getR s.data.toList a with
    | (n, tq, er) => ((n : Int), tq, er)
def rsgnP (s : ByteArray) (a b : Int) : Int × Int × Int :=
  if b ≠ 0 then (0, a, b) else match gsR s.data.toList a with
    | (n, tq, er) => (unz n, tq, er)
def rtxtP (s : ByteArray) (a b : Int) : ByteArray × Int × Int :=
  if b ≠ 0 then (⟨#[]⟩, a, b) else match gtR s a with
    | (x, tq, er) => (x, tq, er)
/-- The fields of an item of kind k, read one behind the other from state (a, b). -/
def fillP (s : ByteArray) (k a b : Int) : It × Int × Int :=
  if k = 1 then
    match txtP s a b with
    | (ek, a, b) => match numP s a b with
      | (ea, a, b) => match sgnP s a b with
        | (ev, a, b) => ({ itZ with kind := 1, ek := ek, ea := ea, ev := ev }, a, b)
  else if k = 2 then
    match numP s a b with
    | (ma, a, b) => ({ itZ with kind := 2, ma := ma }, a, b)
  else if k = 4 then
    match numP s a b with
    | (n, a, b) => ({ itZ with kind := 4, n := n }, a, b)
  else if k = 5 then
    match txtP s a b with
    | (rk, a, b) => match numP s a b with
      | (lo, a, b) => match numP s a b with
        | (hi, a, b) => match numP s a b with
          | (rn, a, b) => match sgnP s a b with
            | (rv, a, b) => ({ itZ with kind := 5, lo := lo, hi := hi, rk := rk, rn := rn, rv := rv }, a, b)
  else ({ itZ with kind := k }, a, b)
/-- An item of bytes, or why there is none. -/
def getP (s : ByteArray) : It × Int :=
  match numP s 0 0 with
  | (k, a, b) =>
    if b = 0 ∧ (k < 1 ∨ 5 < k) then (itZ, 40)
    else match fillP s k a b with
      | (i, a, b) => if b ≠ 0 then (itZ, b) else if a < (s.size : Int) then (itZ, 21) else if rightI i = false then (itZ, 1) else (i, 0)
theorem app_assoc (a b c : ByteArray) : a ++ b ++ c = a ++ (b ++ c) := bytes_ext (by simp only [data_app, List.append_assoc])
theorem emp_app (a : ByteArray) : (⟨#[]⟩ : ByteArray) ++ a = a := bytes_ext (by rw [data_app]; rfl)
theorem app_emp (a : ByteArray) : a ++ (⟨#[]⟩ : ByteArray) = a := bytes_ext (by rw [data_app]; simp)
theorem szi (a b : ByteArray) : ((a.size : Int) + (b.size : Int)) = ((a ++ b).size : Int) := by rw [ByteArray.size_append]; omega
theorem numP_at {s A R : ByteArray} {n : Int} (hs : s = A ++ (digS n.toNat ++ R)) (h0 : 0 ≤ n) (h1 : n ≤ 9223372036854775807) :
    numP s A.size 0 = (n, ((A ++ digS n.toNat).size : Int), 0) ∧ s = A ++ digS n.toNat ++ R := by
  have e : s = A ++ digS n.toNat ++ R := by rw [hs, app_assoc]
  refine ⟨?_, e⟩
  have hr := rdAt_back (most := 9223372036854775807) (n := n.toNat) (by omega) (by omega) A R
  rw [← e] at hr
  change getR s.data.toList A.size = _ at hr
  unfold numP
  rw [if_neg (by simp), hr, szi]
  simp; omega
theorem sgnP_at {s A R : ByteArray} {n : Int} (hs : s = A ++ (digS (zz n) ++ R)) (h0 : -9223372036854775808 ≤ n) (h1 : n ≤ 9223372036854775807) :
    sgnP s A.size 0 = (n, ((A ++ digS (zz n)).size : Int), 0) ∧ s = A ++ digS (zz n) ++ R := by
  have hz := zz_lt h0 h1
  have e : s = A ++ digS (zz n) ++ R := by rw [hs, app_assoc]
  refine ⟨?_, e⟩
  have hr := rdAt_back (most := 18446744073709551615) (n := zz n) hz (by omega) A R
  rw [← e] at hr
  change gsR s.data.toList A.size = _ at hr
  unfold sgnP
  rw [if_neg (by simp), hr, szi]
  simp [unz_zz]
theorem txtP_at {s A R t : ByteArray} (hs : s = A ++ ((digS t.size ++ t) ++ R)) (h0 : t.size ≤ 4096) :
    txtP s A.size 0 = (t, ((A ++ (digS t.size ++ t)).size : Int), 0) ∧ s = A ++ (digS t.size ++ t) ++ R := by
  have e : s = A ++ (digS t.size ++ t) ++ R := hs.trans (app_assoc A (digS t.size ++ t) R).symm
  refine ⟨?_, e⟩
  have hr := gtR_back A t R h0
  rw [← e] at hr
  unfold txtP
  rw [if_neg (by simp), hr, szi]
  simp
/-- A number that is cut off ends too early. -/
theorem rd_at_cut {most : Nat} {s A : ByteArray} {n j : Nat} (hs : s = A ++ (digS n).extract 0 j) (hn : n < 18446744073709551616) (hm : n ≤ most) (hj : j < (digS n).size) : rdAt most s.data.toList A.size = (0, 0, 20) := by
  unfold rdAt
  rw [if_neg (by rw [hs, data_app, List.length_append, len_data]; omega), hs, data_app, Int.toNat_natCast, ← len_data A, List.drop_left, data_extract, digS_data]
  rw [List.drop_zero, Nat.sub_zero, rd_dig_cut most hn hm (by rw [digS_size] at hj; exact hj)]
  simp
theorem numP_cut {s A : ByteArray} {n : Int} {j : Nat} (hs : s = A ++ (digS n.toNat).extract 0 j) (h0 : 0 ≤ n) (h1 : n ≤ 9223372036854775807) (hj : j < (digS n.toNat).size) : numP s A.size 0 = (0, (A.size : Int), 20) := by
  have hr : getR s.data.toList A.size = (0, 0, 20) := rd_at_cut (most := 9223372036854775807) hs (by omega) (by omega) hj
  unfold numP
  rw [if_neg (by simp), hr]
  simp
theorem sgnP_cut {s A : ByteArray} {n : Int} {j : Nat} (hs : s = A ++ (digS (zz n)).extract 0 j) (h0 : -9223372036854775808 ≤ n) (h1 : n ≤ 9223372036854775807) (hj : j < (digS (zz n)).size) : sgnP s A.size 0 = (0, (A.size : Int), 20) := by
  have hz := zz_lt h0 h1
  have hr : gsR s.data.toList A.size = (0, 0, 20) := rd_at_cut (most := 18446744073709551615) hs hz (by omega) hj
  unfold sgnP
  rw [if_neg (by simp), hr]
  simp
theorem ext_app (s : ByteArray) {q t u : Nat} (h : q ≤ t) (h' : t ≤ u) : s.extract q t ++ s.extract t u = s.extract q u := by
  apply bytes_ext
  simp only [data_app, data_extract]
  rw [show u - q = (t - q) + (u - t) by omega, List.take_add, List.drop_drop, show q + (t - q) = t by omega]
theorem ext_all (s : ByteArray) : s.extract 0 s.size = s := by
  apply bytes_ext
  rw [data_extract, List.drop_zero, Nat.sub_zero, ← len_data, List.take_length]
/-- What a read that came tq is. -/
theorem numP_once {s : ByteArray} {p : Nat} {b v t b' : Int} (h : numP s p b = (v, t, b')) (hb : b' = 0) : b = 0 ∧ ∃ u : Nat, t = u ∧ p < u ∧ u ≤ s.size ∧ 0 ≤ v ∧ v ≤ 9223372036854775807 ∧ s.extract p u = digS v.toNat := by
  subst hb
  unfold numP at h
  by_cases h0 : b = 0
  · refine ⟨h0, ?_⟩
    rw [if_neg (by simpa using h0)] at h
    obtain ⟨⟨n, tt, er⟩, hr⟩ : ∃ r, getR s.data.toList p = r := ⟨_, rfl⟩
    rw [hr] at h
    simp only at h
    by_cases he : er = 0
    · subst he
      simp only [if_true, Prod.mk.injEq] at h
      obtain ⟨q, u, e1, e2, hq, hu, hn, hx⟩ := rdAt_once (by decide) hr
      obtain ⟨rfl, rfl, -⟩ := h
      have : q = p := by omega
      subst this
      exact ⟨u, e2, hq, hu, by omega, by omega, by rw [Int.toNat_natCast]; exact hx⟩
    · rw [if_neg he] at h
      simp only [Prod.mk.injEq] at h
      exact absurd h.2.2 he
  · rw [if_pos h0] at h
    simp only [Prod.mk.injEq] at h
    exact absurd h.2.2 h0
theorem sgnP_once {s : ByteArray} {p : Nat} {b v t b' : Int} (h : sgnP s p b = (v, t, b')) (hb : b' = 0) : b = 0 ∧ ∃ u : Nat, t = u ∧ p < u ∧ u ≤ s.size ∧ wfL v ∧ s.extract p u = digS (zz v) := by
  subst hb
  unfold sgnP at h
  by_cases h0 : b = 0
  · refine ⟨h0, ?_⟩
    rw [if_neg (by simpa using h0)] at h
    obtain ⟨⟨n, tt, er⟩, hr⟩ : ∃ r, gsR s.data.toList p = r := ⟨_, rfl⟩
    rw [hr] at h
    simp only at h
    by_cases he : er = 0
    · subst he
      simp only [if_true, Prod.mk.injEq] at h
      obtain ⟨q, u, e1, e2, hq, hu, hn, hx⟩ := rdAt_once (by decide) hr
      obtain ⟨rfl, rfl, -⟩ := h
      have : q = p := by omega
      subst this
      exact ⟨u, e2, hq, hu, unz_rng (by omega), by rw [zz_unz]; exact hx⟩
    · rw [if_neg he] at h
      simp only [Prod.mk.injEq] at h
      exact absurd h.2.2 he
  · rw [if_pos h0] at h
    simp only [Prod.mk.injEq] at h
    exact absurd h.2.2 h0
theorem txtP_once {s : ByteArray} {p : Nat} {b : Int} {v : ByteArray} {t b' : Int} (h : txtP s p b = (v, t, b')) (hb : b' = 0) : b = 0 ∧ ∃ u : Nat, t = u ∧ p < u ∧ u ≤ s.size ∧ v.size ≤ 4096 ∧ s.extract p u = digS v.size ++ v := by
  subst hb
  unfold txtP at h
  by_cases h0 : b = 0
  · refine ⟨h0, ?_⟩
    rw [if_neg (by simpa using h0)] at h
    obtain ⟨⟨n, tt, er⟩, hr⟩ : ∃ r, gtR s p = r := ⟨_, rfl⟩
    rw [hr] at h
    simp only at h
    by_cases he : er = 0
    · subst he
      simp only [if_true, Prod.mk.injEq] at h
      obtain ⟨q, u, e1, e2, hq, hu, hn, hx⟩ := gtR_once hr
      obtain ⟨rfl, rfl, -⟩ := h
      have : q = p := by omega
      subst this
      exact ⟨u, e2, hq, hu, hn, hx⟩
    · rw [if_neg he] at h
      simp only [Prod.mk.injEq] at h
      exact absurd h.2.2 he
  · rw [if_pos h0] at h
    simp only [Prod.mk.injEq] at h
    exact absurd h.2.2 h0
def itC (i : It) : Array Value := #[.int .i64 i.kind, .string i.ek, .int .i64 i.ea, .int .i64 i.ev, .int .i64 i.ma, .int .i64 i.n, .int .i64 i.lo, .int .i64 i.hi, .string i.rk, .int .i64 i.rn, .int .i64 i.rv]
theorem itV_C (i : It) : itV i = .agg (itC i) := rfl
theorem ReadTo.below {w0 w w' : World} {g : Nat} {T : TypeId} {s : ByteArray} {a b : Int} (hw : ReadTo g T s a b w w') (h : Below w0.heap.size w0 w) (hg : w0.heap.size ≤ g) : Below w0.heap.size w0 w' :=
  ⟨hw.2.2.1.trans h.os, hw.2.2.2.1.trans h.tape, hw.2.2.2.2.1.trans h.output, by rw [hw.2.2.2.2.2]; exact h.size, fun k hk => (hw.2.1 k (by omega)).trans (h.block k hk)⟩
/-- The blocks of a walk of Get that began in w: the result (g), the reader (g + 1), the item (g + 1 + 1). -/
structure St (w : World) (g : Nat) (W : World) (T : TypeId) (s : ByteArray) (a b : Int) (i : It) : Prop where
  g0 : g = w.heap.size
  res : W.heap[g]? = some (.cells (itC itZ) 43 (0, 0))
  rd : W.heap[g + 1]? = some (.cells #[.string s, .int .i64 a, .int .i64 b] T (0, 0))
  it : W.heap[g + 1 + 1]? = some (.cells (itC i) 43 (0, 0))
  size : W.heap.size = g + 3
  bel : Below w.heap.size w W
theorem St.read {w W W' : World} {g : Nat} {T : TypeId} {s : ByteArray} {a b a' b' : Int} {i : It} (h : St w g W T s a b i) (hw : ReadTo (g + 1) T s a' b' W W') : St w g W' T s a' b' i :=
  ⟨h.g0, (hw.2.1 _ (by omega)).trans h.res, hw.1, (hw.2.1 _ (by omega)).trans h.it, hw.2.2.2.2.2.trans h.size, hw.below h.bel (by have := h.g0; omega)⟩
theorem St.put {w W : World} {g : Nat} {T : TypeId} {s : ByteArray} {a b : Int} {i : It} (h : St w g W T s a b i) (j : Nat) (v : Value) (i' : It) (hi : (itC i).setIfInBounds j v = itC i') : St w g (W.setCell ⟨g + 1 + 1, j, none⟩ v) T s a b i' := by
  refine ⟨h.g0, (Below.heap_setCell W ⟨g + 1 + 1, j, none⟩ v _ (by show g ≠ g + 1 + 1; omega)).trans h.res, (Below.heap_setCell W ⟨g + 1 + 1, j, none⟩ v _ (by show g + 1 ≠ g + 1 + 1; omega)).trans h.rd, ?_, ?_, h.bel.setCell (by have := h.g0; show w.heap.size ≤ g + 1 + 1; omega) v⟩
  · rw [← hi]
    have := h.it
    simp [World.setCell, Array.getElem?_modify, this]
  · simpa [World.setCell] using h.size
theorem St.bad {w W : World} {g : Nat} {T : TypeId} {s : ByteArray} {a b : Int} {i : It} (h : St w g W T s a b i) (b' : Int) : St w g (W.setCell ⟨g + 1, 2, none⟩ (.int .i64 b')) T s a b' i := by
  refine ⟨h.g0, (Below.heap_setCell W ⟨g + 1, 2, none⟩ _ _ (by show g ≠ g + 1; omega)).trans h.res, ?_, (Below.heap_setCell W ⟨g + 1, 2, none⟩ _ _ (by show g + 1 + 1 ≠ g + 1; omega)).trans h.it, ?_, h.bel.setCell (by have := h.g0; show w.heap.size ≤ g + 1; omega) _⟩
  · have := h.rd
    simp [World.setCell, Array.getElem?_modify, this]
  · simpa [World.setCell] using h.size
theorem St.drew {w W : World} {g : Nat} {T : TypeId} {s : ByteArray} {a b : Int} {i : It} (h : St w g W T s a b i) : St w g W.drew T s a b i := ⟨h.g0, h.res, h.rd, h.it, h.size, h.bel.drew⟩
theorem St.kept {w W W' : World} {g : Nat} {T : TypeId} {s : ByteArray} {a b : Int} {i : It} (h : St w g W T s a b i) (hb : Below W.heap.size W W') :
    W'.heap[g]? = some (.cells (itC itZ) 43 (0, 0)) ∧ W'.heap[g + 1]? = some (.cells #[.string s, .int .i64 a, .int .i64 b] T (0, 0)) ∧ W'.heap[g + 1 + 1]? = some (.cells (itC i) 43 (0, 0)) ∧ Below w.heap.size w W' :=
  ⟨(hb.block g (by have := h.size; omega)).trans h.res, (hb.block _ (by have := h.size; omega)).trans h.rd, (hb.block _ (by have := h.size; omega)).trans h.it, h.bel.trans (hb.mono (by have := h.size; have := h.g0; omega))⟩
theorem cellsAt {W : World} {g : Nat} {cs : Array Value} {T : TypeId} (h : W.heap[g]? = some (.cells cs T (0, 0))) (j : Nat) : W.cell? ⟨g, j, none⟩ = cs[j]? := Lib.cell_of_heap h j
theorem frozAt {W : World} {g : Nat} {cs : Array Value} {T : TypeId} (h : W.heap[g]? = some (.cells cs T (0, 0))) (j : Nat) : W.frozen? ⟨g, j, none⟩ = false := by simp [World.frozen?, h]
theorem St.start (w : World) (s : ByteArray) (T : TypeId) (k : Int) (k0 : Int) : St w w.heap.size (((w.alloc (.cells (itC itZ) 43)).alloc (.cells #[.string s, .int .i64 0, .int .i64 k0] T)).alloc (.cells (itC { itZ with kind := k }) 43)) T s 0 k0 { itZ with kind := k } := by
  obtain ⟨A, hA⟩ : ∃ A : Obj, A = .cells (itC itZ) 43 := ⟨_, rfl⟩
  obtain ⟨B, hB⟩ : ∃ B : Obj, B = .cells #[.string s, .int .i64 0, .int .i64 k0] T := ⟨_, rfl⟩
  obtain ⟨C, hC⟩ : ∃ C : Obj, C = .cells (itC { itZ with kind := k }) 43 := ⟨_, rfl⟩
  rw [← hA, ← hB, ← hC]
  have e1 : (w.alloc A).heap.size = w.heap.size + 1 := by simp
  have e2 : ((w.alloc A).alloc B).heap.size = w.heap.size + 1 + 1 := by simp
  have e3 : (((w.alloc A).alloc B).alloc C).heap.size = w.heap.size + 3 := by simp
  refine ⟨rfl, ?_, ?_, ?_, e3, bel_alloc (bel_alloc (bel_alloc (Below.refl _ _) _) _) _⟩
  · rw [← hA]
    exact (Below.heap_alloc _ C _ (by omega)).trans ((Below.heap_alloc _ B _ (by omega)).trans (heap_alloc_new w A))
  · rw [← hB, ← e1]
    exact (Below.heap_alloc _ C _ (by omega)).trans (heap_alloc_new _ B)
  · rw [← hC, ← e2]
    exact heap_alloc_new _ C
/-- How Get ends. -/
def fin (s : ByteArray) (i : It) (a b : Int) : It × Int :=
  if b ≠ 0 then (itZ, b) else if a < (s.size : Int) then (itZ, 21) else if rightI i = false then (itZ, 1) else (i, 0)
theorem fin_b {s : ByteArray} {i : It} {a b : Int} {R : It × Int} (h : fin s i a b = R) (hb : b ≠ 0) : R = (itZ, b) := by
  rw [← h]; unfold fin; rw [if_pos hb]
theorem fin_a {s : ByteArray} {i : It} {a : Int} {R : It × Int} (h : fin s i a 0 = R) (ha : a < (s.size : Int)) : R = (itZ, 21) := by
  rw [← h]; unfold fin; rw [if_neg (by simp), if_pos ha]
theorem fin_r {s : ByteArray} {i : It} {a : Int} {R : It × Int} (h : fin s i a 0 = R) (ha : ¬ a < (s.size : Int)) (hr : rightI i = false) : R = (itZ, 1) := by
  rw [← h]; unfold fin; rw [if_neg (by simp), if_neg ha, if_pos hr]
theorem fin_i {s : ByteArray} {i : It} {a : Int} {R : It × Int} (h : fin s i a 0 = R) (ha : ¬ a < (s.size : Int)) (hr : rightI i = true) : R = (i, 0) := by
  rw [← h]; unfold fin; rw [if_neg (by simp), if_neg ha, if_neg (by rw [hr]; simp)]
theorem loopL (b : ByteArray) : ∀ (n i : Nat) (r : List UInt8), b.size - i = n → ByteArray.toList.loop b i r = r.reverse ++ b.data.toList.drop i := by
  intro n
  induction n with
  | zero =>
    intro i r h
    unfold ByteArray.toList.loop
    rw [if_neg (by omega), List.drop_eq_nil_of_le (by rw [Array.length_toList]; show b.size ≤ i; omega)]
    simp
  | succ n ih =>
    intro i r h
    unfold ByteArray.toList.loop
    rw [if_pos (by omega), ih (i + 1) _ (by omega)]
    have hi : i < b.data.toList.length := by rw [Array.length_toList]; show i < b.size; omega
    rw [List.drop_eq_getElem_cons hi]
    have : b.get! i = b.data.toList[i] := by
      rw [ByteArray.get!]
      simp at hi
      simp [getElem!_pos, hi]
    simp [this]
theorem toListL (b : ByteArray) : b.toList = b.data.toList := by
  unfold ByteArray.toList
  rw [loopL b _ 0 [] rfl]; simp
theorem eqLL {a b : ByteArray} (h : a.toList = b.toList) : a = b := by
  rw [toListL, toListL] at h
  exact bytes_ext h
theorem getP_0 {s : ByteArray} {a b : Int} (h0 : numP s 0 0 = (0, a, b)) (hb : b ≠ 0) : getP s = (itZ, b) := by
  simp [getP, fillP, h0, hb]
theorem getP_6 {s : ByteArray} {k a : Int} (h0 : numP s 0 0 = (k, a, 0)) (hk : k < 1 ∨ 5 < k) : getP s = (itZ, 40) := by
  simp [getP, h0, hk]
theorem getP_1 {s ek : ByteArray} {a1 a2 a3 a4 b2 b3 b4 ea ev : Int} (h0 : numP s 0 0 = (1, a1, 0)) (h1 : txtP s a1 0 = (ek, a2, b2)) (h2 : numP s a2 b2 = (ea, a3, b3)) (h3 : sgnP s a3 b3 = (ev, a4, b4)) :
    getP s = fin s { itZ with kind := 1, ek := ek, ea := ea, ev := ev } a4 b4 := by
  simp [getP, fillP, h0, h1, h2, h3, fin]
theorem getP_2 {s : ByteArray} {a1 a2 b2 ma : Int} (h0 : numP s 0 0 = (2, a1, 0)) (h1 : numP s a1 0 = (ma, a2, b2)) :
    getP s = fin s { itZ with kind := 2, ma := ma } a2 b2 := by
  simp [getP, fillP, h0, h1, fin]
theorem getP_3 {s : ByteArray} {a1 : Int} (h0 : numP s 0 0 = (3, a1, 0)) : getP s = fin s { itZ with kind := 3 } a1 0 := by
  simp [getP, fillP, h0, fin]
theorem getP_4 {s : ByteArray} {a1 a2 b2 n : Int} (h0 : numP s 0 0 = (4, a1, 0)) (h1 : numP s a1 0 = (n, a2, b2)) :
    getP s = fin s { itZ with kind := 4, n := n } a2 b2 := by
  simp [getP, fillP, h0, h1, fin]
theorem getP_5 {s rk : ByteArray} {a1 a2 a3 a4 a5 a6 b2 b3 b4 b5 b6 lo hi rn rv : Int} (h0 : numP s 0 0 = (5, a1, 0)) (h1 : txtP s a1 0 = (rk, a2, b2)) (h2 : numP s a2 b2 = (lo, a3, b3)) (h3 : numP s a3 b3 = (hi, a4, b4)) (h4 : numP s a4 b4 = (rn, a5, b5)) (h5 : sgnP s a5 b5 = (rv, a6, b6)) :
    getP s = fin s { itZ with kind := 5, lo := lo, hi := hi, rk := rk, rn := rn, rv := rv } a6 b6 := by
  simp [getP, fillP, h0, h1, h2, h3, h4, h5, fin]
theorem eqNil {a : ByteArray} (h : a.toList = []) : a = ⟨#[]⟩ := eqLL (h.trans (by rw [toListL]))
theorem right_1 {ek : ByteArray} {ea ev ma n lo hi : Int} {rk : ByteArray} {rn rv : Int} (h : rightI ⟨1, ek, ea, ev, ma, n, lo, hi, rk, rn, rv⟩ = true) : (⟨1, ek, ea, ev, ma, n, lo, hi, rk, rn, rv⟩ : It) = { itZ with kind := 1, ek := ek, ea := ea, ev := ev } := by
  simp [rightI, sameI, bareI, itZ] at h
  obtain ⟨-, rfl, rfl, ⟨rfl, rfl⟩, hk, rfl, rfl⟩ := h
  rw [eqNil hk]; rfl
theorem right_2 {ek : ByteArray} {ea ev ma n lo hi : Int} {rk : ByteArray} {rn rv : Int} (h : rightI ⟨2, ek, ea, ev, ma, n, lo, hi, rk, rn, rv⟩ = true) : (⟨2, ek, ea, ev, ma, n, lo, hi, rk, rn, rv⟩ : It) = { itZ with kind := 2, ma := ma } := by
  simp [rightI, sameI, bareI, itZ] at h
  obtain ⟨-, ⟨he, rfl, rfl⟩, rfl, ⟨rfl, rfl⟩, hk, rfl, rfl⟩ := h
  rw [eqNil hk, eqNil he]; rfl
theorem right_3 {ek : ByteArray} {ea ev ma n lo hi : Int} {rk : ByteArray} {rn rv : Int} (h : rightI ⟨3, ek, ea, ev, ma, n, lo, hi, rk, rn, rv⟩ = true) : (⟨3, ek, ea, ev, ma, n, lo, hi, rk, rn, rv⟩ : It) = { itZ with kind := 3 } := by
  simp [rightI, sameI, bareI, itZ] at h
  obtain ⟨-, ⟨he, rfl, rfl⟩, rfl, rfl, ⟨rfl, rfl⟩, hk, rfl, rfl⟩ := h
  rw [eqNil hk, eqNil he]; rfl
theorem right_4 {ek : ByteArray} {ea ev ma n lo hi : Int} {rk : ByteArray} {rn rv : Int} (h : rightI ⟨4, ek, ea, ev, ma, n, lo, hi, rk, rn, rv⟩ = true) : (⟨4, ek, ea, ev, ma, n, lo, hi, rk, rn, rv⟩ : It) = { itZ with kind := 4, n := n } := by
  simp [rightI, sameI, bareI, itZ] at h
  obtain ⟨-, ⟨he, rfl, rfl⟩, rfl, ⟨rfl, rfl⟩, hk, rfl, rfl⟩ := h
  rw [eqNil hk, eqNil he]; rfl
theorem right_5 {ek : ByteArray} {ea ev ma n lo hi : Int} {rk : ByteArray} {rn rv : Int} (h : rightI ⟨5, ek, ea, ev, ma, n, lo, hi, rk, rn, rv⟩ = true) : (⟨5, ek, ea, ev, ma, n, lo, hi, rk, rn, rv⟩ : It) = { itZ with kind := 5, lo := lo, hi := hi, rk := rk, rn := rn, rv := rv } := by
  simp [rightI, sameI, bareI, itZ] at h
  obtain ⟨-, ⟨he, rfl, rfl⟩, rfl, rfl⟩ := h
  rw [eqNil he]; rfl
theorem fin_yes {s A R : ByteArray} {i : It} (e : s = A ++ R) (hR : rightI i = true) : fin s i A.size 0 = if 0 < R.size then (itZ, 21) else (i, 0) := by
  unfold fin
  rw [if_neg (by simp), hR]
  have hsz : s.size = A.size + R.size := by rw [e, ByteArray.size_append]
  by_cases h : 0 < R.size
  · rw [if_pos (by omega), if_pos h]
  · rw [if_neg (by omega), if_neg h, if_neg (by simp)]
theorem sz0 : (((⟨#[]⟩ : ByteArray).size : Nat) : Int) = 0 := rfl
/-- What is put is got again; with bytes behind it, it is of another form. -/
theorem get_back (i : It) (wf : i.Wf) (hR : rightI i = true) (R : ByteArray) : getP (bytesI i ++ R) = if 0 < R.size then (itZ, 21) else (i, 0) := by
  have hk := right_kind hR
  have hB := right_bare hR
  obtain ⟨kind, ek, ea, ev, ma, n, lo, hi, rk, rn, rv⟩ := i
  obtain ⟨-, -, -, we, -, -, -, -, -, -, wr⟩ := wf
  simp only at hk we wr
  unfold wfL at we wr
  obtain ⟨s, hs⟩ : ∃ s, bytesI ⟨kind, ek, ea, ev, ma, n, lo, hi, rk, rn, rv⟩ ++ R = s := ⟨_, rfl⟩
  rw [hs]
  rcases hk with rfl | rfl | rfl | rfl | rfl
  · obtain ⟨f1, f2, f3⟩ := ev_facts (show evB ek ea = true from hB)
    have e0 : s = ⟨#[]⟩ ++ (digS (1 : Int).toNat ++ ((digS ek.size ++ ek) ++ (digS ea.toNat ++ (digS (zz ev) ++ R)))) := by
      rw [emp_app, ← hs, show bytesI ⟨1, ek, ea, ev, ma, n, lo, hi, rk, rn, rv⟩ = digS (1 : Int).toNat ++ (digS ek.size ++ ek) ++ digS ea.toNat ++ digS (zz ev) from rfl]
      simp only [app_assoc]
    obtain ⟨h0, e1⟩ := numP_at e0 (by decide) (by decide)
    obtain ⟨h1, e2⟩ := txtP_at e1 (by omega)
    obtain ⟨h2, e3⟩ := numP_at e2 f2 (by omega)
    obtain ⟨h3, e4⟩ := sgnP_at e3 we.1 we.2
    rw [sz0] at h0
    rw [getP_1 h0 h1 h2 h3, ← right_1 hR, fin_yes e4 hR]
  · have hB' : (decide (0 ≤ ma) && decide (ma ≤ 1099511627776)) = true := hB
    simp at hB'
    have e0 : s = ⟨#[]⟩ ++ (digS (2 : Int).toNat ++ (digS ma.toNat ++ R)) := by
      rw [emp_app, ← hs, show bytesI ⟨2, ek, ea, ev, ma, n, lo, hi, rk, rn, rv⟩ = digS (2 : Int).toNat ++ digS ma.toNat from rfl]
      simp only [app_assoc]
    obtain ⟨h0, e1⟩ := numP_at e0 (by decide) (by decide)
    obtain ⟨h1, e2⟩ := numP_at e1 hB'.1 (by omega)
    rw [sz0] at h0
    rw [getP_2 h0 h1, ← right_2 hR, fin_yes e2 hR]
  · have e0 : s = ⟨#[]⟩ ++ (digS (3 : Int).toNat ++ R) := by
      rw [emp_app, ← hs, show bytesI ⟨3, ek, ea, ev, ma, n, lo, hi, rk, rn, rv⟩ = digS (3 : Int).toNat from rfl]
    obtain ⟨h0, e1⟩ := numP_at e0 (by decide) (by decide)
    rw [sz0] at h0
    rw [getP_3 h0, ← right_3 hR, fin_yes e1 hR]
  · have hB' : (decide (1 ≤ n) && decide (n ≤ 1073741824)) = true := hB
    simp at hB'
    have e0 : s = ⟨#[]⟩ ++ (digS (4 : Int).toNat ++ (digS n.toNat ++ R)) := by
      rw [emp_app, ← hs, show bytesI ⟨4, ek, ea, ev, ma, n, lo, hi, rk, rn, rv⟩ = digS (4 : Int).toNat ++ digS n.toNat from rfl]
      simp only [app_assoc]
    obtain ⟨h0, e1⟩ := numP_at e0 (by decide) (by decide)
    obtain ⟨h1, e2⟩ := numP_at e1 (n := n) (by omega) (by omega)
    rw [sz0] at h0
    rw [getP_4 h0 h1, ← right_4 hR, fin_yes e2 hR]
  · obtain ⟨f1, l0, l1, i0, i1, n0, n1⟩ := res_facts (show resB lo hi rk rn = true from hB)
    have e0 : s = ⟨#[]⟩ ++ (digS (5 : Int).toNat ++ ((digS rk.size ++ rk) ++ (digS lo.toNat ++ (digS hi.toNat ++ (digS rn.toNat ++ (digS (zz rv) ++ R)))))) := by
      rw [emp_app, ← hs, show bytesI ⟨5, ek, ea, ev, ma, n, lo, hi, rk, rn, rv⟩ = digS (5 : Int).toNat ++ (digS rk.size ++ rk) ++ digS lo.toNat ++ digS hi.toNat ++ digS rn.toNat ++ digS (zz rv) from rfl]
      simp only [app_assoc]
    obtain ⟨h0, e1⟩ := numP_at e0 (by decide) (by decide)
    obtain ⟨h1, e2⟩ := txtP_at e1 (by omega)
    obtain ⟨h2, e3⟩ := numP_at e2 l0 (by omega)
    obtain ⟨h3, e4⟩ := numP_at e3 i0 (by omega)
    obtain ⟨h4, e5⟩ := numP_at e4 n0 (by omega)
    obtain ⟨h5, e6⟩ := sgnP_at e5 wr.1 wr.2
    rw [sz0] at h0
    rw [getP_5 h0 h1 h2 h3 h4 h5, ← right_5 hR, fin_yes e6 hR]
theorem dig_pos (n : Nat) : 1 ≤ (digS n).size := by rw [digS_size, dig_length]; omega
/-- An item's bytes less the last one end too early. -/
theorem get_cut (i : It) (wf : i.Wf) (hR : rightI i = true) : getP ((bytesI i).extract 0 ((bytesI i).size - 1)) = (itZ, 20) := by
  have hk := right_kind hR
  have hB := right_bare hR
  obtain ⟨kind, ek, ea, ev, ma, n, lo, hi, rk, rn, rv⟩ := i
  obtain ⟨-, -, -, we, -, -, -, -, -, -, wr⟩ := wf
  simp only at hk we wr
  unfold wfL at we wr
  have cut : ∀ (A : ByteArray) (m : Nat), (A ++ digS m).extract 0 ((A ++ digS m).size - 1) = A ++ (digS m).extract 0 ((digS m).size - 1) := by
    intro A m
    have := dig_pos m
    apply bytes_ext
    simp only [data_extract, data_app, ByteArray.size_append, List.drop_zero, Nat.sub_zero]
    rw [List.take_append, List.take_of_length_le (by rw [len_data]; omega), len_data, show A.size + (digS m).size - 1 - A.size = (digS m).size - 1 by omega]
  have lt : ∀ m, (digS m).size - 1 < (digS m).size := fun m => by have := dig_pos m; omega
  obtain ⟨s, hs⟩ : ∃ s, (bytesI ⟨kind, ek, ea, ev, ma, n, lo, hi, rk, rn, rv⟩).extract 0 ((bytesI ⟨kind, ek, ea, ev, ma, n, lo, hi, rk, rn, rv⟩).size - 1) = s := ⟨_, rfl⟩
  rw [hs]
  rcases hk with rfl | rfl | rfl | rfl | rfl
  · obtain ⟨f1, f2, f3⟩ := ev_facts (show evB ek ea = true from hB)
    rw [show bytesI ⟨1, ek, ea, ev, ma, n, lo, hi, rk, rn, rv⟩ = digS (1 : Int).toNat ++ (digS ek.size ++ ek) ++ digS ea.toNat ++ digS (zz ev) from rfl, cut] at hs
    have e0 : s = ⟨#[]⟩ ++ (digS (1 : Int).toNat ++ ((digS ek.size ++ ek) ++ (digS ea.toNat ++ (digS (zz ev)).extract 0 ((digS (zz ev)).size - 1)))) := by
      rw [emp_app, ← hs]
      simp only [app_assoc]
    obtain ⟨h0, e1⟩ := numP_at e0 (by decide) (by decide)
    obtain ⟨h1, e2⟩ := txtP_at e1 (by omega)
    obtain ⟨h2, e3⟩ := numP_at e2 f2 (by omega)
    have h3 := sgnP_cut e3 we.1 we.2 (lt _)
    rw [sz0] at h0
    rw [getP_1 h0 h1 h2 h3]; rfl
  · have hB' : (decide (0 ≤ ma) && decide (ma ≤ 1099511627776)) = true := hB
    simp at hB'
    rw [show bytesI ⟨2, ek, ea, ev, ma, n, lo, hi, rk, rn, rv⟩ = digS (2 : Int).toNat ++ digS ma.toNat from rfl, cut] at hs
    have e0 : s = ⟨#[]⟩ ++ (digS (2 : Int).toNat ++ (digS ma.toNat).extract 0 ((digS ma.toNat).size - 1)) := by rw [emp_app, ← hs]
    obtain ⟨h0, e1⟩ := numP_at e0 (by decide) (by decide)
    have h1 := numP_cut e1 hB'.1 (by omega) (lt _)
    rw [sz0] at h0
    rw [getP_2 h0 h1]; rfl
  · rw [show bytesI ⟨3, ek, ea, ev, ma, n, lo, hi, rk, rn, rv⟩ = ⟨#[]⟩ ++ digS (3 : Int).toNat from (emp_app _).symm, cut] at hs
    have h0 := numP_cut hs.symm (by decide) (by decide) (lt _)
    rw [sz0] at h0
    exact getP_0 h0 (by decide)
  · have hB' : (decide (1 ≤ n) && decide (n ≤ 1073741824)) = true := hB
    simp at hB'
    rw [show bytesI ⟨4, ek, ea, ev, ma, n, lo, hi, rk, rn, rv⟩ = digS (4 : Int).toNat ++ digS n.toNat from rfl, cut] at hs
    have e0 : s = ⟨#[]⟩ ++ (digS (4 : Int).toNat ++ (digS n.toNat).extract 0 ((digS n.toNat).size - 1)) := by rw [emp_app, ← hs]
    obtain ⟨h0, e1⟩ := numP_at e0 (by decide) (by decide)
    have h1 := numP_cut e1 (n := n) (by omega) (by omega) (lt _)
    rw [sz0] at h0
    rw [getP_4 h0 h1]; rfl
  · obtain ⟨f1, l0, l1, i0, i1, n0, n1⟩ := res_facts (show resB lo hi rk rn = true from hB)
    rw [show bytesI ⟨5, ek, ea, ev, ma, n, lo, hi, rk, rn, rv⟩ = digS (5 : Int).toNat ++ (digS rk.size ++ rk) ++ digS lo.toNat ++ digS hi.toNat ++ digS rn.toNat ++ digS (zz rv) from rfl, cut] at hs
    have e0 : s = ⟨#[]⟩ ++ (digS (5 : Int).toNat ++ ((digS rk.size ++ rk) ++ (digS lo.toNat ++ (digS hi.toNat ++ (digS rn.toNat ++ (digS (zz rv)).extract 0 ((digS (zz rv)).size - 1)))))) := by
      rw [emp_app, ← hs]
      simp only [app_assoc]
    obtain ⟨h0, e1⟩ := numP_at e0 (by decide) (by decide)
    obtain ⟨h1, e2⟩ := txtP_at e1 (by omega)
    obtain ⟨h2, e3⟩ := numP_at e2 l0 (by omega)
    obtain ⟨h3, e4⟩ := numP_at e3 i0 (by omega)
    obtain ⟨h4, e5⟩ := numP_at e4 n0 (by omega)
    have h5 := sgnP_cut e5 wr.1 wr.2 (lt _)
    rw [sz0] at h0
    rw [getP_5 h0 h1 h2 h3 h4 h5]; rfl
theorem fin_once {s : ByteArray} {i j : It} {a b : Int} (h : fin s i a b = (j, 0)) : b = 0 ∧ (s.size : Int) ≤ a ∧ rightI i = true ∧ j = i := by
  unfold fin at h
  by_cases hb : b = 0
  · rw [if_neg (by simpa using hb)] at h
    by_cases ha : a < (s.size : Int)
    · rw [if_pos ha] at h
      simp at h
    · rw [if_neg ha] at h
      cases hR : rightI i with
      | false => rw [hR] at h; simp at h
      | true => rw [hR] at h; simp at h; exact ⟨hb, by omega, rfl, h.symm⟩
  · rw [if_pos hb] at h
    simp only [Prod.mk.injEq] at h
    exact absurd h.2 hb
theorem fin_no {s : ByteArray} {i j : It} {a b e : Int} (h : fin s i a b = (j, e)) (he : e ≠ 0) : j = itZ := by
  unfold fin at h
  by_cases hb : b = 0
  · rw [if_neg (by simpa using hb)] at h
    by_cases ha : a < (s.size : Int)
    · rw [if_pos ha] at h
      simp only [Prod.mk.injEq] at h
      exact h.1.symm
    · rw [if_neg ha] at h
      cases hR : rightI i with
      | false => rw [hR] at h; simp at h; exact h.1.symm
      | true => rw [hR] at h; simp at h; exact absurd h.2.symm he
  · rw [if_pos hb] at h
    simp only [Prod.mk.injEq] at h
    exact h.1.symm
theorem numP_zero {s : ByteArray} {a k a' b' : Int} (h : numP s a 0 = (k, a', b')) (hb : b' ≠ 0) : k = 0 := by
  unfold numP at h
  rw [if_neg (by simp)] at h
  obtain ⟨⟨n, tt, er⟩, hr⟩ : ∃ r, getR s.data.toList a = r := ⟨_, rfl⟩
  rw [hr] at h
  simp only at h
  by_cases he : er = 0
  · rw [if_pos he] at h; simp only [Prod.mk.injEq] at h; exact absurd h.2.2.symm hb
  · rw [if_neg he] at h; simp only [Prod.mk.injEq] at h; exact h.1.symm
theorem get_no {s : ByteArray} {j : It} {e : Int} (h : getP s = (j, e)) (he : e ≠ 0) : j = itZ := by
  obtain ⟨⟨k, a, b⟩, h0⟩ : ∃ r, numP s 0 0 = r := ⟨_, rfl⟩
  by_cases hb : b = 0
  · subst hb
    by_cases hk : k < 1 ∨ 5 < k
    · rw [getP_6 h0 hk] at h; simp only [Prod.mk.injEq] at h; exact h.1.symm
    · have hk' : k = 1 ∨ k = 2 ∨ k = 3 ∨ k = 4 ∨ k = 5 := by omega
      rcases hk' with rfl | rfl | rfl | rfl | rfl
      · rw [getP_1 h0 rfl rfl rfl] at h; exact fin_no h he
      · rw [getP_2 h0 rfl] at h; exact fin_no h he
      · rw [getP_3 h0] at h; exact fin_no h he
      · rw [getP_4 h0 rfl] at h; exact fin_no h he
      · rw [getP_5 h0 rfl rfl rfl rfl rfl] at h; exact fin_no h he
  · obtain rfl := numP_zero h0 hb
    rw [getP_0 h0 hb] at h; simp only [Prod.mk.injEq] at h; exact h.1.symm
theorem szI (v : ByteArray) (h : v.size ≤ 4096) : v.size ≤ maxLen := by unfold maxLen; omega
theorem szZ : (⟨#[]⟩ : ByteArray).size ≤ maxLen := by decide
theorem wf0 : wfL 0 := by unfold wfL; omega
theorem get_once {s : ByteArray} {i : It} (h : getP s = (i, 0)) : rightI i = true ∧ bytesI i = s ∧ i.Wf := by
  obtain ⟨⟨k, a, b⟩, h0⟩ : ∃ r, numP s 0 0 = r := ⟨_, rfl⟩
  by_cases hb : b = 0
  · subst hb
    by_cases hk : k < 1 ∨ 5 < k
    · rw [getP_6 h0 hk] at h; simp at h
    · obtain ⟨-, u0, rfl, q0, z0, -, -, x0⟩ := numP_once (p := 0) h0 rfl
      have hk' : k = 1 ∨ k = 2 ∨ k = 3 ∨ k = 4 ∨ k = 5 := by omega
      rcases hk' with rfl | rfl | rfl | rfl | rfl
      · obtain ⟨⟨v1, a1, b1⟩, h1⟩ : ∃ r, txtP s u0 0 = r := ⟨_, rfl⟩
        obtain ⟨⟨v2, a2, b2⟩, h2⟩ : ∃ r, numP s a1 b1 = r := ⟨_, rfl⟩
        obtain ⟨⟨v3, a3, b3⟩, h3⟩ : ∃ r, sgnP s a2 b2 = r := ⟨_, rfl⟩
        rw [getP_1 h0 h1 h2 h3] at h
        obtain ⟨e3, hsz, hR, rfl⟩ := fin_once h
        have e2 : b2 = 0 := by
          rcases Classical.em (b2 = 0) with e | e
          · exact e
          · unfold sgnP at h3; rw [if_pos e] at h3; simp only [Prod.mk.injEq] at h3; omega
        have e1 : b1 = 0 := by
          rcases Classical.em (b1 = 0) with e | e
          · exact e
          · unfold numP at h2; rw [if_pos e] at h2; simp only [Prod.mk.injEq] at h2; omega
        obtain ⟨-, u1, rfl, q1, z1, y1, x1⟩ := txtP_once h1 e1
        obtain ⟨-, u2, rfl, q2, z2, l2, m2, x2⟩ := numP_once h2 e2
        obtain ⟨-, u3, rfl, q3, z3, w3, x3⟩ := sgnP_once h3 e3
        obtain rfl : u3 = s.size := by omega
        refine ⟨hR, ?_, ⟨by unfold wfL; simp, szI v1 y1, by unfold wfL; simp; omega, w3, wf0, wf0, wf0, wf0, szZ, wf0, wf0⟩⟩
        rw [show bytesI { itZ with kind := 1, ek := v1, ea := v2, ev := v3 } = digS (1 : Int).toNat ++ (digS v1.size ++ v1) ++ digS v2.toNat ++ digS (zz v3) from rfl, ← x0, ← x1, ← x2, ← x3, ext_app s (by omega) (by omega), ext_app s (by omega) (by omega), ext_app s (by omega) (by omega), ext_all]
      · obtain ⟨⟨v1, a1, b1⟩, h1⟩ : ∃ r, numP s u0 0 = r := ⟨_, rfl⟩
        rw [getP_2 h0 h1] at h
        obtain ⟨e1, hsz, hR, rfl⟩ := fin_once h
        obtain ⟨-, u1, rfl, q1, z1, l1, m1, x1⟩ := numP_once h1 e1
        obtain rfl : u1 = s.size := by omega
        refine ⟨hR, ?_, ⟨by unfold wfL; simp, szZ, wf0, wf0, by unfold wfL; simp; omega, wf0, wf0, wf0, szZ, wf0, wf0⟩⟩
        rw [show bytesI { itZ with kind := 2, ma := v1 } = digS (2 : Int).toNat ++ digS v1.toNat from rfl, ← x0, ← x1, ext_app s (by omega) (by omega), ext_all]
      · rw [getP_3 h0] at h
        obtain ⟨-, hsz, hR, rfl⟩ := fin_once h
        obtain rfl : u0 = s.size := by omega
        refine ⟨hR, ?_, ⟨by unfold wfL; simp, szZ, wf0, wf0, wf0, wf0, wf0, wf0, szZ, wf0, wf0⟩⟩
        rw [show bytesI { itZ with kind := 3 } = digS (3 : Int).toNat from rfl, ← x0, ext_all]
      · obtain ⟨⟨v1, a1, b1⟩, h1⟩ : ∃ r, numP s u0 0 = r := ⟨_, rfl⟩
        rw [getP_4 h0 h1] at h
        obtain ⟨e1, hsz, hR, rfl⟩ := fin_once h
        obtain ⟨-, u1, rfl, q1, z1, l1, m1, x1⟩ := numP_once h1 e1
        obtain rfl : u1 = s.size := by omega
        refine ⟨hR, ?_, ⟨by unfold wfL; simp, szZ, wf0, wf0, wf0, by unfold wfL; simp; omega, wf0, wf0, szZ, wf0, wf0⟩⟩
        rw [show bytesI { itZ with kind := 4, n := v1 } = digS (4 : Int).toNat ++ digS v1.toNat from rfl, ← x0, ← x1, ext_app s (by omega) (by omega), ext_all]
      · obtain ⟨⟨v1, a1, b1⟩, h1⟩ : ∃ r, txtP s u0 0 = r := ⟨_, rfl⟩
        obtain ⟨⟨v2, a2, b2⟩, h2⟩ : ∃ r, numP s a1 b1 = r := ⟨_, rfl⟩
        obtain ⟨⟨v3, a3, b3⟩, h3⟩ : ∃ r, numP s a2 b2 = r := ⟨_, rfl⟩
        obtain ⟨⟨v4, a4, b4⟩, h4⟩ : ∃ r, numP s a3 b3 = r := ⟨_, rfl⟩
        obtain ⟨⟨v5, a5, b5⟩, h5⟩ : ∃ r, sgnP s a4 b4 = r := ⟨_, rfl⟩
        rw [getP_5 h0 h1 h2 h3 h4 h5] at h
        obtain ⟨e5, hsz, hR, rfl⟩ := fin_once h
        have e4 : b4 = 0 := by
          rcases Classical.em (b4 = 0) with e | e
          · exact e
          · unfold sgnP at h5; rw [if_pos e] at h5; simp only [Prod.mk.injEq] at h5; omega
        have e3 : b3 = 0 := by
          rcases Classical.em (b3 = 0) with e | e
          · exact e
          · unfold numP at h4; rw [if_pos e] at h4; simp only [Prod.mk.injEq] at h4; omega
        have e2 : b2 = 0 := by
          rcases Classical.em (b2 = 0) with e | e
          · exact e
          · unfold numP at h3; rw [if_pos e] at h3; simp only [Prod.mk.injEq] at h3; omega
        have e1 : b1 = 0 := by
          rcases Classical.em (b1 = 0) with e | e
          · exact e
          · unfold numP at h2; rw [if_pos e] at h2; simp only [Prod.mk.injEq] at h2; omega
        obtain ⟨-, u1, rfl, q1, z1, y1, x1⟩ := txtP_once h1 e1
        obtain ⟨-, u2, rfl, q2, z2, l2, m2, x2⟩ := numP_once h2 e2
        obtain ⟨-, u3, rfl, q3, z3, l3, m3, x3⟩ := numP_once h3 e3
        obtain ⟨-, u4, rfl, q4, z4, l4, m4, x4⟩ := numP_once h4 e4
        obtain ⟨-, u5, rfl, q5, z5, w5, x5⟩ := sgnP_once h5 e5
        obtain rfl : u5 = s.size := by omega
        refine ⟨hR, ?_, ⟨by unfold wfL; simp, szZ, wf0, wf0, wf0, wf0, by unfold wfL; simp; omega, by unfold wfL; simp; omega, szI v1 y1, by unfold wfL; simp; omega, w5⟩⟩
        rw [show bytesI { itZ with kind := 5, lo := v2, hi := v3, rk := v1, rn := v4, rv := v5 } = digS (5 : Int).toNat ++ (digS v1.size ++ v1) ++ digS v2.toNat ++ digS v3.toNat ++ digS v4.toNat ++ digS (zz v5) from rfl, ← x0, ← x1, ← x2, ← x3, ← x4, ← x5, ext_app s (by omega) (by omega), ext_app s (by omega) (by omega), ext_app s (by omega) (by omega), ext_app s (by omega) (by omega), ext_app s (by omega) (by omega), ext_all]
  · obtain rfl := numP_zero h0 hb
    rw [getP_0 h0 hb] at h; simp only [Prod.mk.injEq] at h; exact absurd h.2 hb
end Go.Proofs.YtlboehpgpbchhaaGreat.Itm
