/-
  WALKS: the writer of items.
-/
import Derived.Test.YtgpifbdjcoiilaaItemPlain
import Derived.Test.YtgpifbdjcoiilaaVlqW7
import Derived.RegionTactic
import Derived.Outline
namespace Go.Proofs.Ytgpifbdjcoiilaa
open Go.RowKit

/-- The writer at block g holds s' now; nothing else that stood has changed. -/
def Wrote (g : Nat) (s' : ByteArray) (w w' : World) : Prop :=
  w'.heap[g]? = some (.cells #[.string s'] 75 (0, 0)) ∧ (∀ k, k < w.heap.size → k ≠ g → w'.heap[k]? = w.heap[k]?) ∧ w'.os = w.os ∧ w'.tape = w.tape ∧ w'.output = w.output ∧ w.heap.size ≤ w'.heap.size
theorem wrote_of {g : Nat} {s s' : ByteArray} {w w1 : World} (hb : Below w.heap.size w w1) (hg : w.heap[g]? = some (.cells #[.string s] 75 (0, 0))) (hl : g < w.heap.size) : Wrote g s' w (w1.setCell ⟨g, 0, none⟩ (.string s')) := by
  have h1 : w1.heap[g]? = some (.cells #[.string s] 75 (0, 0)) := (hb.block g hl).trans hg
  refine ⟨?_, fun k hk hne => (Below.heap_setCell w1 ⟨g, 0, none⟩ _ k hne).trans (hb.block k hk), hb.os, hb.tape, hb.output, ?_⟩
  · simp [World.setCell, Array.getElem?_modify, h1]
  · have := hb.size
    simp [World.setCell]; exact this
theorem hlt {w : World} {g : Nat} {o : Obj} (h : w.heap[g]? = some o) : g < w.heap.size := (Array.getElem?_eq_some_iff.1 h).1
theorem bcellW {W w1 : World} (hb : Below W.heap.size W w1) : (∀ b o, b < W.heap.size → w1.cell? ⟨b, o, none⟩ = W.cell? ⟨b, o, none⟩) ∧ (∀ b o, b < W.heap.size → w1.frozen? ⟨b, o, none⟩ = W.frozen? ⟨b, o, none⟩) :=
  ⟨fun b o h => hb.cell (p := ⟨b, o, none⟩) h, fun b o h => hb.frozen (p := ⟨b, o, none⟩) h⟩
theorem dig10 {n : Nat} (h : n < 18446744073709551616) : (digS n).size ≤ 10 := by
  rw [digS_size, dig_length]; exact Nat.succ_le_succ (cnt_le h)
set_option maxHeartbeats 1000000 in
theorem number_any (g : Nat) (s d : ByteArray) (n : Int) (w : World) (hg : w.heap[g]? = some (.cells #[.string s] 75 (0, 0))) (hs : s.size ≤ 100000) (h0 : 0 ≤ n) (h1 : n ≤ 9223372036854775807) (hd : digS n.toNat = d) :
    Calls Try.prog 58 #[.pointer (some ⟨g, 0, none⟩), .int .i64 n] w fun e w' => e = .returned (.tuple #[]) ∧ Wrote g (s ++ d) w w' := by
  have Hg := Lib.hid hg
  have hl := hlt hg
  have hds : d.size ≤ 10 := by rw [← hd]; exact dig10 (n := n.toNat) (by omega)
  have HP := Lib.hid (fun W => put_yes n W h0 h1)
  rw [hd] at HP
  clear h0 h1 hd hg
  go_enter Try.func58, Try.ntmps58
  go_wp2_with fail
  refine (HP.out _).mono ?_
  rintro e w1 ⟨rfl, hb⟩
  have h2 : w1.heap[g]? = some (.cells #[.string s] 75 (0, 0)) := (hb.block g hl).trans Hg.out
  have hc : w1.cell? ⟨g, 0, none⟩ = some (.string s) := Lib.cell_of_heap h2 0
  have hf : w1.frozen? ⟨g, 0, none⟩ = false := by simp [World.frozen?, h2]
  clear h2
  go_wp2_with fail
  go_end0
  exact ⟨rfl, wrote_of hb Hg.out hl⟩
set_option maxHeartbeats 1000000 in
theorem text_w (g : Nat) (s k : ByteArray) (w : World) (hg : w.heap[g]? = some (.cells #[.string s] 75 (0, 0))) (hs : s.size ≤ 100000) (hk : k.size ≤ 4096) :
    Calls Try.prog 59 #[.pointer (some ⟨g, 0, none⟩), .string k] w fun e w' => e = .returned (.tuple #[]) ∧ Wrote g (s ++ (digS k.size ++ k)) w w' := by
  have Hg := Lib.hid hg
  have hl := hlt hg
  obtain ⟨d, hd⟩ : ∃ d, digS k.size ++ k = d := ⟨_, rfl⟩
  have hds : d.size ≤ 4106 := by
    have := dig10 (n := k.size) (by omega)
    rw [← hd, ByteArray.size_append]; omega
  have HP := Lib.hid (fun W => textS_any k W d 0 (by omega) (by unfold txtR; rw [if_neg (by omega), hd]))
  rw [hd]
  clear hd hg
  go_enter Try.func59, Try.ntmps59
  go_wp2_with fail
  refine (HP.out _).mono ?_
  rintro e w1 ⟨rfl, hb⟩
  have h2 : w1.heap[g]? = some (.cells #[.string s] 75 (0, 0)) := (hb.block g hl).trans Hg.out
  have hc : w1.cell? ⟨g, 0, none⟩ = some (.string s) := Lib.cell_of_heap h2 0
  have hf : w1.frozen? ⟨g, 0, none⟩ = false := by simp [World.frozen?, h2]
  clear h2
  go_wp2_with fail
  go_end0
  exact ⟨rfl, wrote_of hb Hg.out hl⟩
set_option maxHeartbeats 1000000 in
theorem signed_w (g : Nat) (s d : ByteArray) (n : Int) (w : World) (hg : w.heap[g]? = some (.cells #[.string s] 75 (0, 0))) (hs : s.size ≤ 100000) (h0 : -9223372036854775808 ≤ n) (h1 : n ≤ 9223372036854775807) (hd : digS (zz n) = d) :
    Calls Try.prog 60 #[.pointer (some ⟨g, 0, none⟩), .int .i64 n] w fun e w' => e = .returned (.tuple #[]) ∧ Wrote g (s ++ d) w w' := by
  have hl := hlt hg
  have hds : d.size ≤ 10 := by rw [← hd]; exact dig10 (zz_lt h0 h1)
  have HP := Lib.hid (fun W => signed_any n W h0 h1)
  rw [hd] at HP
  have hc : w.cell? ⟨g, 0, none⟩ = some (.string s) := Lib.cell_of_heap hg 0
  have hf : w.frozen? ⟨g, 0, none⟩ = false := by simp [World.frozen?, hg]
  have Hg := Lib.hid hg
  clear h0 h1 hd hg
  go_enter Try.func60, Try.ntmps60
  go_wp2_with fail
  go_region_with (first | (go_at_call 22; refine (HP.out _).mono ?_; rintro e w1 ⟨rfl, hb⟩; have hc2 := ((bcellW hb).1 g 0 hl).trans hc; have hf2 := ((bcellW hb).2 g 0 hl).trans hf; clear hc hf))
  all_goals go_wp2_with fail
  all_goals go_end0
  all_goals exact ⟨rfl, wrote_of ⟨hb.os, hb.tape, hb.output, hb.size, hb.block⟩ Hg.out hl⟩
end Go.Proofs.Ytgpifbdjcoiilaa
