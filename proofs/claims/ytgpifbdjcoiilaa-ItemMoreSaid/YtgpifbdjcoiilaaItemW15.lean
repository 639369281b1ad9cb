/-
  WALKS: the reader of items.
-/
import Derived.Test.YtgpifbdjcoiilaaItemW13
import Derived.Lib.Hide
namespace Go.Proofs.Ytgpifbdjcoiilaa
open Go.RowKit

/-- The reader at block g (of type T) stands at at', with bad'; nothing else that stood has changed. -/
def ReadTo (g : Nat) (T : TypeId) (s : ByteArray) (at' bad' : Int) (w w' : World) : Prop :=
  w'.heap[g]? = some (.cells #[.string s, .int .i64 at', .int .i64 bad'] T (0, 0)) ∧ (∀ k, k ≠ g → w'.heap[k]? = w.heap[k]?) ∧ w'.os = w.os ∧ w'.tape = w.tape ∧ w'.output = w.output ∧ w'.heap.size = w.heap.size
theorem readTo_same {g : Nat} {T : TypeId} {s : ByteArray} {a b : Int} {w : World} (hg : w.heap[g]? = some (.cells #[.string s, .int .i64 a, .int .i64 b] T (0, 0))) : ReadTo g T s a b w w :=
  ⟨hg, fun _ _ => rfl, rfl, rfl, rfl, rfl⟩
theorem readTo_at {g : Nat} {T : TypeId} {s : ByteArray} {a b : Int} {w : World} (hg : w.heap[g]? = some (.cells #[.string s, .int .i64 a, .int .i64 b] T (0, 0))) (a' : Int) :
    ReadTo g T s a' b w (w.drew.setCell ⟨g, 1, none⟩ (.int .i64 a')) := by
  have hg' : w.drew.heap[g]? = some (.cells #[.string s, .int .i64 a, .int .i64 b] T (0, 0)) := hg
  refine ⟨?_, fun k hk => Below.heap_setCell w.drew ⟨g, 1, none⟩ _ k hk, rfl, rfl, rfl, ?_⟩
  · simp [World.setCell, Array.getElem?_modify, hg']
  · simp [World.setCell]
theorem readTo_bad {g : Nat} {T : TypeId} {s : ByteArray} {a b : Int} {w : World} (hg : w.heap[g]? = some (.cells #[.string s, .int .i64 a, .int .i64 b] T (0, 0))) (b' : Int) :
    ReadTo g T s a b' w (w.drew.setCell ⟨g, 2, none⟩ (.int .i64 b')) := by
  have hg' : w.drew.heap[g]? = some (.cells #[.string s, .int .i64 a, .int .i64 b] T (0, 0)) := hg
  refine ⟨?_, fun k hk => Below.heap_setCell w.drew ⟨g, 2, none⟩ _ k hk, rfl, rfl, rfl, ?_⟩
  · simp [World.setCell, Array.getElem?_modify, hg']
  · simp [World.setCell]
set_option maxHeartbeats 1000000 in
theorem field_num (g : Nat) (s : ByteArray) (a : Int) (w : World) (n : Nat) (to er : Int) (hg : w.heap[g]? = some (.cells #[.string s, .int .i64 a, .int .i64 0] 83 (0, 0))) (hs : s.size ≤ 9223372036854775807)
    (hr : getR s.data.toList a = (n, to, er)) :
    Calls Try.prog 78 #[.pointer (some ⟨g, 0, none⟩), .func (.func 25) #[] #[]] w fun e w' =>
      if er = 0 then e = .returned (.int .i64 n) ∧ ReadTo g 83 s to 0 w w' else e = .returned (.int .i64 0) ∧ ReadTo g 83 s a er w w' := by
  have c0 : w.cell? ⟨g, 0, none⟩ = some (.string s) := Lib.cell_of_heap hg 0
  have c1 : w.cell? ⟨g, 1, none⟩ = some (.int .i64 a) := Lib.cell_of_heap hg 1
  have c2 : w.cell? ⟨g, 2, none⟩ = some (.int .i64 0) := Lib.cell_of_heap hg 2
  have f1 : w.frozen? ⟨g, 1, none⟩ = false := by simp [World.frozen?, hg]
  have f2 : w.frozen? ⟨g, 2, none⟩ = false := by simp [World.frozen?, hg]
  have HG := Lib.hid (fun W => get_any s a W n to er hs hr)
  have Hg := Lib.hid hg
  clear hr hg hs
  by_cases he : er = 0
  · subst he
    simp only [if_pos]
    go_enter Try.func78, Try.ntmps78
    go_wp2_with fail
    go_region_with (first | (go_at_call 25; refine (HG.out _).mono ?_; rintro e w2 ⟨rfl, rfl⟩))
    all_goals go_wp2_with fail
    all_goals go_ret
    all_goals exact ⟨rfl, readTo_at Hg.out _⟩
  · simp only [if_neg he]
    have hb : (er == 0) = false := beq_eq_false_iff_ne.2 he
    go_enter Try.func78, Try.ntmps78
    go_wp2_with fail
    go_region_with (first | (go_at_call 25; refine (HG.out _).mono ?_; rintro e w2 ⟨rfl, rfl⟩))
    all_goals go_wp2_with fail
    all_goals go_ret
    all_goals exact ⟨rfl, readTo_bad Hg.out _⟩
end Go.Proofs.Ytgpifbdjcoiilaa
