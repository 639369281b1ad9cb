/-
  WALKS: the readers of items, field by field.
-/
import Derived.Test.YtgpifbdjcoiilaaItemW15
namespace Go.Proofs.Ytgpifbdjcoiilaa
open Go.RowKit

theorem readTo_both {g : Nat} {T : TypeId} {s : ByteArray} {a b : Int} {w : World} (hg : w.heap[g]? = some (.cells #[.string s, .int .i64 a, .int .i64 b] T (0, 0))) (a' b' : Int) :
    ReadTo g T s a' b' w ((w.drew.setCell ⟨g, 1, none⟩ (.int .i64 a')).setCell ⟨g, 2, none⟩ (.int .i64 b')) := by
  refine ⟨?_, fun k hk => (Below.heap_setCell _ ⟨g, 2, none⟩ _ k hk).trans (Below.heap_setCell w.drew ⟨g, 1, none⟩ _ k hk), rfl, rfl, rfl, ?_⟩
  · have hg' : w.drew.heap[g]? = some (.cells #[.string s, .int .i64 a, .int .i64 b] T (0, 0)) := hg
    simp [World.setCell, Array.getElem?_modify, hg']
  · simp [World.setCell]

theorem field_num_skip (g : Nat) (s : ByteArray) (a b : Int) (w : World) (hg : w.heap[g]? = some (.cells #[.string s, .int .i64 a, .int .i64 b] 83 (0, 0))) (hb : b ≠ 0) :
    Calls Try.prog 78 #[.pointer (some ⟨g, 0, none⟩), .func (.func 25) #[] #[]] w fun e w' => e = .returned (.int .i64 0) ∧ w = w' := by
  have c2 : w.cell? ⟨g, 2, none⟩ = some (.int .i64 b) := Lib.cell_of_heap hg 2
  have hb' : (b == 0) = false := beq_eq_false_iff_ne.2 hb
  clear hg
  go_enter Try.func78, Try.ntmps78
  go_wp2_with fail
  go_ret
  exact ⟨rfl, rfl⟩
theorem rfield_num_skip (g : Nat) (s : ByteArray) (a b : Int) (w : World) (hg : w.heap[g]? = some (.cells #[.string s, .int .i64 a, .int .i64 b] 88 (0, 0))) (hb : b ≠ 0) :
    Calls Try.prog 65 #[.pointer (some ⟨g, 0, none⟩)] w fun e w' => e = .returned (.int .i64 0) ∧ w = w' := by
  have c2 : w.cell? ⟨g, 2, none⟩ = some (.int .i64 b) := Lib.cell_of_heap hg 2
  have hb' : (b == 0) = false := beq_eq_false_iff_ne.2 hb
  clear hg
  go_enter Try.func65, Try.ntmps65
  go_wp2_with fail
  go_ret
  exact ⟨rfl, rfl⟩
set_option maxHeartbeats 1000000 in
theorem rfield_num (g : Nat) (s : ByteArray) (a : Int) (w : World) (n : Nat) (to er : Int) (hg : w.heap[g]? = some (.cells #[.string s, .int .i64 a, .int .i64 0] 88 (0, 0))) (hs : s.size ≤ 140737488355328) (hr : getR s.data.toList a = (n, to, er)) :
    Calls Try.prog 65 #[.pointer (some ⟨g, 0, none⟩)] w fun e w' => e = .returned (.int .i64 n) ∧ ReadTo g 88 s to er w w' := by
  have c0 : w.cell? ⟨g, 0, none⟩ = some (.string s) := Lib.cell_of_heap hg 0
  have c1 : w.cell? ⟨g, 1, none⟩ = some (.int .i64 a) := Lib.cell_of_heap hg 1
  have c2 : w.cell? ⟨g, 2, none⟩ = some (.int .i64 0) := Lib.cell_of_heap hg 2
  have f1 : w.frozen? ⟨g, 1, none⟩ = false := by simp [World.frozen?, hg]
  have f2 : w.frozen? ⟨g, 2, none⟩ = false := by simp [World.frozen?, hg]
  have HG := Lib.hid (fun W => rget_any s a W n to er (Nat.le_trans hs (by decide)) hr)
  have Hg := Lib.hid hg
  clear hr hg hs
  go_enter Try.func65, Try.ntmps65
  go_wp2_with fail
  go_region_with (first | (go_at_call 28; refine (HG.out _).mono ?_; rintro e w2 ⟨rfl, rfl⟩))
  all_goals go_wp2_with fail
  all_goals go_ret
  all_goals exact ⟨rfl, readTo_both Hg.out _ _⟩
theorem field_sgn_skip (g : Nat) (s : ByteArray) (a b : Int) (w : World) (hg : w.heap[g]? = some (.cells #[.string s, .int .i64 a, .int .i64 b] 83 (0, 0))) (hb : b ≠ 0) :
    Calls Try.prog 78 #[.pointer (some ⟨g, 0, none⟩), .func (.func 23) #[] #[]] w fun e w' => e = .returned (.int .i64 0) ∧ w = w' := by
  have c2 : w.cell? ⟨g, 2, none⟩ = some (.int .i64 b) := Lib.cell_of_heap hg 2
  have hb' : (b == 0) = false := beq_eq_false_iff_ne.2 hb
  clear hg
  go_enter Try.func78, Try.ntmps78
  go_wp2_with fail
  go_ret
  exact ⟨rfl, rfl⟩
set_option maxHeartbeats 1000000 in
theorem field_sgn (g : Nat) (s : ByteArray) (a : Int) (w : World) (n : Nat) (to er : Int) (hg : w.heap[g]? = some (.cells #[.string s, .int .i64 a, .int .i64 0] 83 (0, 0))) (hs : s.size ≤ 140737488355328) (hr : gsR s.data.toList a = (n, to, er)) :
    Calls Try.prog 78 #[.pointer (some ⟨g, 0, none⟩), .func (.func 23) #[] #[]] w fun e w' => if er = 0 then e = .returned (.int .i64 (unz n)) ∧ ReadTo g 83 s to 0 w w' else e = .returned (.int .i64 0) ∧ ReadTo g 83 s a er w w' := by
  have c0 : w.cell? ⟨g, 0, none⟩ = some (.string s) := Lib.cell_of_heap hg 0
  have c1 : w.cell? ⟨g, 1, none⟩ = some (.int .i64 a) := Lib.cell_of_heap hg 1
  have c2 : w.cell? ⟨g, 2, none⟩ = some (.int .i64 0) := Lib.cell_of_heap hg 2
  have f1 : w.frozen? ⟨g, 1, none⟩ = false := by simp [World.frozen?, hg]
  have f2 : w.frozen? ⟨g, 2, none⟩ = false := by simp [World.frozen?, hg]
  have HG := Lib.hid (fun W => gets_any s a W n to er (Nat.le_trans hs (by decide)) hr)
  obtain ⟨u, hu⟩ : ∃ u, unz n = u := ⟨_, rfl⟩
  rw [hu] at HG
  simp only [hu]
  clear hu
  have Hg := Lib.hid hg
  clear hr hg hs
  by_cases he : er = 0
  · subst he
    simp only [if_pos]
    go_enter Try.func78, Try.ntmps78
    go_wp2_with fail
    go_region_with (first | (go_at_call 23; refine (HG.out _).mono ?_; rintro e w2 ⟨rfl, rfl⟩))
    all_goals go_wp2_with fail
    all_goals go_ret
    all_goals exact ⟨rfl, readTo_at Hg.out _⟩
  · simp only [if_neg he]
    have hb : (er == 0) = false := beq_eq_false_iff_ne.2 he
    go_enter Try.func78, Try.ntmps78
    go_wp2_with fail
    go_region_with (first | (go_at_call 23; refine (HG.out _).mono ?_; rintro e w2 ⟨rfl, rfl⟩))
    all_goals go_wp2_with fail
    all_goals go_ret
    all_goals exact ⟨rfl, readTo_bad Hg.out _⟩
theorem rfield_sgn_skip (g : Nat) (s : ByteArray) (a b : Int) (w : World) (hg : w.heap[g]? = some (.cells #[.string s, .int .i64 a, .int .i64 b] 88 (0, 0))) (hb : b ≠ 0) :
    Calls Try.prog 67 #[.pointer (some ⟨g, 0, none⟩)] w fun e w' => e = .returned (.int .i64 0) ∧ w = w' := by
  have c2 : w.cell? ⟨g, 2, none⟩ = some (.int .i64 b) := Lib.cell_of_heap hg 2
  have hb' : (b == 0) = false := beq_eq_false_iff_ne.2 hb
  clear hg
  go_enter Try.func67, Try.ntmps67
  go_wp2_with fail
  go_ret
  exact ⟨rfl, rfl⟩
set_option maxHeartbeats 1000000 in
theorem rfield_sgn (g : Nat) (s : ByteArray) (a : Int) (w : World) (n : Nat) (to er : Int) (hg : w.heap[g]? = some (.cells #[.string s, .int .i64 a, .int .i64 0] 88 (0, 0))) (hs : s.size ≤ 140737488355328) (hr : gsR s.data.toList a = (n, to, er)) :
    Calls Try.prog 67 #[.pointer (some ⟨g, 0, none⟩)] w fun e w' => e = .returned (.int .i64 (unz n)) ∧ ReadTo g 88 s to er w w' := by
  have c0 : w.cell? ⟨g, 0, none⟩ = some (.string s) := Lib.cell_of_heap hg 0
  have c1 : w.cell? ⟨g, 1, none⟩ = some (.int .i64 a) := Lib.cell_of_heap hg 1
  have c2 : w.cell? ⟨g, 2, none⟩ = some (.int .i64 0) := Lib.cell_of_heap hg 2
  have f1 : w.frozen? ⟨g, 1, none⟩ = false := by simp [World.frozen?, hg]
  have f2 : w.frozen? ⟨g, 2, none⟩ = false := by simp [World.frozen?, hg]
  have HG := Lib.hid (fun W => rgets_any s a W n to er (Nat.le_trans hs (by decide)) hr)
  obtain ⟨u, hu⟩ : ∃ u, unz n = u := ⟨_, rfl⟩
  rw [hu] at HG
  simp only [hu]
  clear hu
  have Hg := Lib.hid hg
  clear hr hg hs
  go_enter Try.func67, Try.ntmps67
  go_wp2_with fail
  go_region_with (first | (go_at_call 29; refine (HG.out _).mono ?_; rintro e w2 ⟨rfl, rfl⟩))
  all_goals go_wp2_with fail
  all_goals go_ret
  all_goals exact ⟨rfl, readTo_both Hg.out _ _⟩
theorem field_txt_skip (g : Nat) (s : ByteArray) (a b : Int) (w : World) (hg : w.heap[g]? = some (.cells #[.string s, .int .i64 a, .int .i64 b] 83 (0, 0))) (hb : b ≠ 0) :
    Calls Try.prog 79 #[.pointer (some ⟨g, 0, none⟩), .func (.func 27) #[] #[]] w fun e w' => e = .returned (.string ⟨#[]⟩) ∧ w = w' := by
  have c2 : w.cell? ⟨g, 2, none⟩ = some (.int .i64 b) := Lib.cell_of_heap hg 2
  have hb' : (b == 0) = false := beq_eq_false_iff_ne.2 hb
  clear hg
  go_enter Try.func79, Try.ntmps79
  go_wp2_with fail
  go_ret
  exact ⟨rfl, rfl⟩
set_option maxHeartbeats 1000000 in
theorem field_txt (g : Nat) (s : ByteArray) (a : Int) (w : World) (x : ByteArray) (to er : Int) (hg : w.heap[g]? = some (.cells #[.string s, .int .i64 a, .int .i64 0] 83 (0, 0))) (hs : s.size ≤ 140737488355328) (hr : gtR s a = (x, to, er)) :
    Calls Try.prog 79 #[.pointer (some ⟨g, 0, none⟩), .func (.func 27) #[] #[]] w fun e w' => if er = 0 then e = .returned (.string x) ∧ ReadTo g 83 s to 0 w w' else e = .returned (.string ⟨#[]⟩) ∧ ReadTo g 83 s a er w w' := by
  have c0 : w.cell? ⟨g, 0, none⟩ = some (.string s) := Lib.cell_of_heap hg 0
  have c1 : w.cell? ⟨g, 1, none⟩ = some (.int .i64 a) := Lib.cell_of_heap hg 1
  have c2 : w.cell? ⟨g, 2, none⟩ = some (.int .i64 0) := Lib.cell_of_heap hg 2
  have f1 : w.frozen? ⟨g, 1, none⟩ = false := by simp [World.frozen?, hg]
  have f2 : w.frozen? ⟨g, 2, none⟩ = false := by simp [World.frozen?, hg]
  have HG := Lib.hid (fun W => gett_any s a W x to er (Nat.le_trans hs (by decide)) hr)
  have Hg := Lib.hid hg
  clear hr hg hs
  by_cases he : er = 0
  · subst he
    simp only [if_pos]
    go_enter Try.func79, Try.ntmps79
    go_wp2_with fail
    go_region_with (first | (go_at_call 27; refine (HG.out _).mono ?_; rintro e w2 ⟨rfl, rfl⟩))
    all_goals go_wp2_with fail
    all_goals go_ret
    all_goals exact ⟨rfl, readTo_at Hg.out _⟩
  · simp only [if_neg he]
    have hb : (er == 0) = false := beq_eq_false_iff_ne.2 he
    go_enter Try.func79, Try.ntmps79
    go_wp2_with fail
    go_region_with (first | (go_at_call 27; refine (HG.out _).mono ?_; rintro e w2 ⟨rfl, rfl⟩))
    all_goals go_wp2_with fail
    all_goals go_ret
    all_goals exact ⟨rfl, readTo_bad Hg.out _⟩
theorem rfield_txt_skip (g : Nat) (s : ByteArray) (a b : Int) (w : World) (hg : w.heap[g]? = some (.cells #[.string s, .int .i64 a, .int .i64 b] 88 (0, 0))) (hb : b ≠ 0) :
    Calls Try.prog 66 #[.pointer (some ⟨g, 0, none⟩)] w fun e w' => e = .returned (.string ⟨#[]⟩) ∧ w = w' := by
  have c2 : w.cell? ⟨g, 2, none⟩ = some (.int .i64 b) := Lib.cell_of_heap hg 2
  have hb' : (b == 0) = false := beq_eq_false_iff_ne.2 hb
  clear hg
  go_enter Try.func66, Try.ntmps66
  go_wp2_with fail
  go_ret
  exact ⟨rfl, rfl⟩
set_option maxHeartbeats 1000000 in
theorem rfield_txt (g : Nat) (s : ByteArray) (a : Int) (w : World) (x : ByteArray) (to er : Int) (hg : w.heap[g]? = some (.cells #[.string s, .int .i64 a, .int .i64 0] 88 (0, 0))) (hs : s.size ≤ 140737488355328) (hr : gtR s a = (x, to, er)) :
    Calls Try.prog 66 #[.pointer (some ⟨g, 0, none⟩)] w fun e w' => e = .returned (.string x) ∧ ReadTo g 88 s to er w w' := by
  have c0 : w.cell? ⟨g, 0, none⟩ = some (.string s) := Lib.cell_of_heap hg 0
  have c1 : w.cell? ⟨g, 1, none⟩ = some (.int .i64 a) := Lib.cell_of_heap hg 1
  have c2 : w.cell? ⟨g, 2, none⟩ = some (.int .i64 0) := Lib.cell_of_heap hg 2
  have f1 : w.frozen? ⟨g, 1, none⟩ = false := by simp [World.frozen?, hg]
  have f2 : w.frozen? ⟨g, 2, none⟩ = false := by simp [World.frozen?, hg]
  have HG := Lib.hid (fun W => rgett_any s a W x to er hs hr)
  have Hg := Lib.hid hg
  clear hr hg hs
  go_enter Try.func66, Try.ntmps66
  go_wp2_with fail
  go_region_with (first | (go_at_call 30; refine (HG.out _).mono ?_; rintro e w2 ⟨rfl, rfl⟩))
  all_goals go_wp2_with fail
  all_goals go_ret
  all_goals exact ⟨rfl, readTo_both Hg.out _ _⟩
end Go.Proofs.Ytgpifbdjcoiilaa
