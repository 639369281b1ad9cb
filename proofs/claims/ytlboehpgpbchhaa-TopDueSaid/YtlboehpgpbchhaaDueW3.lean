/-
  WALKS of the law TopDue: a heap's methods through its interface.
-/
import Derived.Test.YtlboehpgpbchhaaDueW2
set_option linter.unusedVariables false
set_option linter.unusedSimpArgs false
namespace Go.Proofs.Ytlboehpgpbchhaa
open Go.RowKit

theorem tloadVar (hb : Nat) (A : Option Addr) (n c : Nat) (w : World) (h : w.cell? ⟨hb, 0, none⟩ = some (.slice A n c)) : (loadVar 96 ⟨hb, 0, none⟩).run Try.prog w = .ok (.slice A n c) w := by
  have hs : (isAgg 96).run Try.prog w = .ok false w := by kernel_rfl
  unfold loadVar
  simp [hs, h, Result.andThen]
theorem trecv (hb : Nat) (A : Option Addr) (n c : Nat) (w : World) (h : w.cell? ⟨hb, 0, none⟩ = some (.slice A n c)) (name : String) : (receiverAt 100 (.val (.pointer (some ⟨hb, 0, none⟩))) false (some name)).run Try.prog w = .ok (.slice A n c) w := by
  have hl := tloadVar hb A n c w h
  have g1 : (Place.get 100 (.val (.pointer (some ⟨hb, 0, none⟩)))).run Try.prog w = .ok (.pointer (some ⟨hb, 0, none⟩)) w := rfl
  have g2 : (Builtin.ssaWrapNilChk_ #[100] 100 #[.pointer (some ⟨hb, 0, none⟩), strVal "", strVal name]).run Try.prog w = .ok (.pointer (some ⟨hb, 0, none⟩)) w := rfl
  have g3 : (asAddr (.pointer (some ⟨hb, 0, none⟩))).run Try.prog w = .ok ⟨hb, 0, none⟩ w := rfl
  unfold receiverAt
  simp [run_underlying Try.underlying100, g1, g2, g3, hl, Result.andThen]
theorem tmeth (hb : Nat) (A : Option Addr) (n c : Nat) (w : World) (h : w.cell? ⟨hb, 0, none⟩ = some (.slice A n c)) (K : Nat) (name : String) (f sig : Nat)
    (h2 : (((Try.prog.info? 100).getD default).methods.find? (·.name == name)) = some ⟨name, sig, #[], some (f, false)⟩) :
    (method (K + 1) 100 (.pointer (some ⟨hb, 0, none⟩)) name).run Try.prog w = .ok (f, .slice A n c) w := by
  have hu := fun name => trecv hb A n c w h name
  have h1 : ∀ w, (typeInfo 100).run Try.prog w = .ok ((Try.prog.info? 100).getD default) w := fun w => by kernel_rfl
  have h3 : (follow [] 100 (Place.val (.pointer (some ⟨hb, 0, none⟩)))).run Try.prog w = .ok (100, Place.val (.pointer (some ⟨hb, 0, none⟩))) w := rfl
  unfold method
  simp [h1, h2, h3, hu, Result.andThen]
theorem fnd_less : (((Try.prog.info? 100).getD default).methods.find? (·.name == "Less")) = some ⟨"Less", 143, #[], some (148, false)⟩ := by kernel_rfl
theorem fnd_swap : (((Try.prog.info? 100).getD default).methods.find? (·.name == "Swap")) = some ⟨"Swap", 144, #[], some (149, false)⟩ := by kernel_rfl
theorem fnd_len : (((Try.prog.info? 100).getD default).methods.find? (·.name == "Len")) = some ⟨"Len", 68, #[], some (147, false)⟩ := by kernel_rfl
theorem met_less (hb : Nat) (A : Option Addr) (n c : Nat) (w : World) (h : w.cell? ⟨hb, 0, none⟩ = some (.slice A n c)) : (method 304 100 (.pointer (some ⟨hb, 0, none⟩)) "Less").run Try.prog w = .ok (148, .slice A n c) w := tmeth hb A n c w h 303 "Less" _ _ fnd_less
theorem met_swap (hb : Nat) (A : Option Addr) (n c : Nat) (w : World) (h : w.cell? ⟨hb, 0, none⟩ = some (.slice A n c)) : (method 304 100 (.pointer (some ⟨hb, 0, none⟩)) "Swap").run Try.prog w = .ok (149, .slice A n c) w := tmeth hb A n c w h 303 "Swap" _ _ fnd_swap
theorem met_len (hb : Nat) (A : Option Addr) (n c : Nat) (w : World) (h : w.cell? ⟨hb, 0, none⟩ = some (.slice A n c)) : (method 304 100 (.pointer (some ⟨hb, 0, none⟩)) "Len").run Try.prog w = .ok (147, .slice A n c) w := tmeth hb A n c w h 303 "Len" _ _ fnd_len
theorem met_push (hb : Nat) (w : World) : (method 304 100 (.pointer (some ⟨hb, 0, none⟩)) "Push").run Try.prog w = .ok (152, .pointer (some ⟨hb, 0, none⟩)) w := by kernel_rfl
theorem met_pop (hb : Nat) (w : World) : (method 304 100 (.pointer (some ⟨hb, 0, none⟩)) "Pop").run Try.prog w = .ok (151, .pointer (some ⟨hb, 0, none⟩)) w := by kernel_rfl
/-- A heap in its block: its row's slice, of one's own. -/
def HpAt (hb : Nat) (v : Value) (l : List Tm) (W : World) : Prop := W.heap[hb]? = some (.cells #[v] 98 (0, 0)) ∧ W.ownsRow (hb + 1) 62 2 v l.length (l.flatMap Tm.cs)
set_option maxRecDepth 100000 in
theorem tlen_any (A : Option Addr) (n c : Nat) (w : World) : Calls Try.prog 147 #[.slice A n c] w fun e w' => e = .returned (.int .i64 n) ∧ w' = w := by
  go_enter Try.func147, Try.ntmps147
  go_wp2_with fail
  go_ret
  exact ⟨rfl, rfl⟩
end Go.Proofs.Ytlboehpgpbchhaa
