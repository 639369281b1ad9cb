/-
  WALKS of the law TopDue: Heap.Pop.
-/
import Derived.Test.YtlboehpgpbchhaaDueW8
set_option linter.unusedVariables false
set_option linter.unusedSimpArgs false
namespace Go.Proofs.Ytlboehpgpbchhaa
open Go.RowKit

theorem Ch2.low {hb : Nat} {r : Option Nat} {w a b : World} (h : Ch2 hb r w a) (k : Below w.heap.size a b) : Ch2 hb r w b :=
  ⟨k.os.trans h.os, k.tape.trans h.tape, k.output.trans h.output, Nat.le_trans h.size k.size, fun i hi h1 h2 => (k.block i hi).trans (h.block i hi h1 h2)⟩
theorem HpAt.low {hb B : Nat} {v : Value} {l : List Tm} {a b : World} (h : HpAt hb v l a) (h1 : hb < B) (h2 : ∀ k, v.ownBlock = some k → k < B) (k : Below B a b) : HpAt hb v l b :=
  ⟨(k.block hb h1).trans h.1, own_keep h.2 (fun j hj => k.block j (h2 j hj))⟩
set_option maxRecDepth 100000 in
set_option maxHeartbeats 4000000 in
theorem tpop_any (hb n c : Nat) (A : Option Addr) (l : List Tm) (w : World) (hw : HpAt hb (.slice A (n + 1) c) l w) (hl : l.length = n + 1) (hh : HpF (key l) (n + 1)) (hn : n ≤ 900) :
    Calls Try.prog 56 #[.pointer (some ⟨hb, 0, none⟩)] w fun e w' => ∃ x, e = .returned (.tuple #[x.val, .bool true]) ∧ PopTo hb n c A l x w' ∧ Ch2 hb (Value.slice A (n + 1) c).ownBlock w w' := by
  have HW := Lib.hid hw
  have HLN := Lib.hid hl
  have HH := Lib.hid hh
  have hz := blk_lt hw.1
  have HOB := Lib.hid (fun k hk => (hw.2.lt k hk).2)
  have HTA := Lib.hid (fun x w => ta_tm x w)
  clear hw hl hh
  go_enter Try.func56, Try.ntmps56
  go_wp2_with fail
  obtain ⟨W1, hW1⟩ : ∃ X, X = w.alloc (.cells #[.int .i64 0, .string ⟨#[]⟩] 62) := ⟨_, rfl⟩
  rw [← hW1]
  have B1 := Lib.hid (show Below w.heap.size w W1 by rw [hW1]; exact bel_alloc (Below.refl _ _) _)
  have Bp := Lib.hid (show W1.heap[w.heap.size]? = some (.cells #[.int .i64 0, .string ⟨#[]⟩] 62 (0, 0)) by rw [hW1]; exact heap_at _ _ _ rfl)
  clear hW1
  have H1 := Lib.hid (HW.out.below B1.out)
  have hOk : HpOk hb l W1 := ⟨⟨_, H1.out⟩, by rw [HLN.out]; exact HH.out⟩
  have HLE := Lib.hid (hlen_any hb l W1 hOk)
  rw [HLN.out] at HLE
  clear hOk
  refine HLE.out.mono ?_
  rintro e w2 ⟨rfl, rfl⟩
  have hne : (((n + 1 : Nat) : Int) == 0) = false := beq_eq_false_iff_ne.2 (by omega)
  have z2 := blk_lt H1.out.1
  go_wp2_with fail
  refine (hpop_any hb n c A l _ H1.out HLN.out HH.out hn).mono ?_
  rintro e w3 ⟨⟨xa, xs⟩, rfl, ⟨l', hper, hmin, hat3, hhp⟩, hch⟩
  have HPR := Lib.hid hper
  have HMN := Lib.hid hmin
  have HA3 := Lib.hid hat3
  have HHP := Lib.hid hhp
  have HCH := Lib.hid hch
  have N3 := Lib.hid (hch.heap Bp.out (by omega) (fun e => by have := HOB.out _ e.symm; omega))
  have hta := fun w => HTA.out (Tm.val ⟨xa, xs⟩) w
  unfold Tm.val at hta ⊢
  simp only at hta ⊢
  clear hper hmin hat3 hhp hch z2
  have z3 := blk_lt N3.out
  have q0 := cellsAt N3.out 0
  have q1 := cellsAt N3.out 1
  have f0 := frozAt N3.out
  simp at q0 q1
  go_wp2_with fail
  have E := heap_below (blk_set (blk_set N3.out 0 (.int .i64 xa)) 1 (.string xs)) (bel_alloc (Below.refl _ _) (.cells #[.int .i64 xa, .string xs] 62))
  simp at E
  have e0 := cellsAt E 0
  have e1 := cellsAt E 1
  simp at e0 e1
  have BL : Below w.heap.size w3 (((w3.setCell ⟨w.heap.size, 0, none⟩ (.int .i64 xa)).setCell ⟨w.heap.size, 1, none⟩ (.string xs)).alloc (.cells #[.int .i64 xa, .string xs] 62)) :=
    (((Below.refl _ _).setCell (p := ⟨w.heap.size, 0, none⟩) (Nat.le_refl _) _).setCell (p := ⟨w.heap.size, 1, none⟩) (Nat.le_refl _) _).alloc (by simp [World.setCell]; omega) _
  exact bodyPost_ret (v := .tuple #[.agg #[.int .i64 xa, .string xs], .bool true]) (by simp [results, Try.results56, go_sem, e0, e1]) rfl ⟨⟨xa, xs⟩, rfl, ⟨l', HPR.out, HMN.out, HA3.out.low hz (fun k hk => HOB.out k (by cases A <;> exact hk)) BL, HHP.out⟩, ((Ch2.bel B1.out).trans HCH.out).low BL⟩
end Go.Proofs.Ytlboehpgpbchhaa
