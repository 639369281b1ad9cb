/-
  WALKS of the law TopDue: the first timer is taken out.
-/
import Derived.Test.YtlboehpgpbchhaaDueW7
set_option linter.unusedVariables false
set_option linter.unusedSimpArgs false
namespace Go.Proofs.Ytlboehpgpbchhaa
open Go.RowKit

/-- But for two blocks all that was there is as it was. -/
structure Ch2 (hb : Nat) (r : Option Nat) (w w' : World) : Prop where
  os : w'.os = w.os
  tape : w'.tape = w.tape
  output : w'.output = w.output
  size : w.heap.size ≤ w'.heap.size
  block : ∀ k, k < w.heap.size → k ≠ hb → some k ≠ r → w'.heap[k]? = w.heap[k]?
theorem Ch2.refl (hb : Nat) (r : Option Nat) (w : World) : Ch2 hb r w w := ⟨rfl, rfl, rfl, Nat.le_refl _, fun _ _ _ _ => rfl⟩
theorem Ch2.trans {hb : Nat} {r : Option Nat} {a b c : World} (h : Ch2 hb r a b) (k : Ch2 hb r b c) : Ch2 hb r a c :=
  ⟨k.os.trans h.os, k.tape.trans h.tape, k.output.trans h.output, Nat.le_trans h.size k.size, fun i hi h1 h2 => (k.block i (Nat.lt_of_lt_of_le hi h.size) h1 h2).trans (h.block i hi h1 h2)⟩
theorem Ch2.row {hb : Nat} {r : Option Nat} {a b : World} (h : a.grownBy b r) : Ch2 hb r a b := ⟨h.os, h.tape, h.output, h.size, fun k hk _ h2 => h.block k hk h2⟩
theorem Ch2.box {hb : Nat} {r : Option Nat} {a b : World} (h : a.grownBy b (some hb)) : Ch2 hb r a b := ⟨h.os, h.tape, h.output, h.size, fun k hk h1 _ => h.block k hk (fun e => h1 (by injection e))⟩
theorem Ch2.bel {hb : Nat} {r : Option Nat} {a b : World} (h : Below a.heap.size a b) : Ch2 hb r a b := ⟨h.os, h.tape, h.output, h.size, fun k hk _ _ => h.block k hk⟩
theorem Ch2.heap {hb : Nat} {r : Option Nat} {a b : World} (h : Ch2 hb r a b) {k : Nat} {o : Obj} (h1 : a.heap[k]? = some o) (h2 : k ≠ hb) (h3 : some k ≠ r) : b.heap[k]? = some o := (h.block k (blk_lt h1) h2 h3).trans h1
theorem tm_take (l : List Tm) (i : Nat) : (l.flatMap Tm.cs).take (i * 2) = (l.take i).flatMap Tm.cs := by
  induction l generalizing i with
  | nil => simp
  | cons a l ih =>
    cases i with
    | zero => simp
    | succ i =>
      rw [List.flatMap_cons, List.take_succ_cons, List.flatMap_cons, ← ih, show (i + 1) * 2 = a.cs.length + i * 2 by simp [Tm.cs_len]; omega, List.take_append, List.take_of_length_le (by omega)]
      congr 1
      congr 1
      omega
theorem own_cut {W : World} {base n : Nat} {A : Option Addr} {c : Nat} {l : List Tm} (h : W.ownsRow base 62 2 (.slice A (n + 1) c) (n + 1) (l.flatMap Tm.cs)) : W.ownsRow base 62 2 (.slice A n c) n ((l.take n).flatMap Tm.cs) := by
  obtain ⟨h1, h2 | ⟨g, cap, cur, hv, hb, hg, hn, hc, hs, hx⟩⟩ := h
  · obtain ⟨-, h2⟩ := h2
    omega
  · injection hv with e1 e2 e3
    subst e1 e3
    refine ⟨?_, .inr ⟨g, c, cur, rfl, hb, hg, by omega, hc, hs, ?_⟩⟩
    · rw [← tm_take, List.length_take, h1]
      omega
    · rw [← tm_take, ← hx, List.take_take]
      congr 1
      omega
set_option maxRecDepth 100000 in
set_option maxHeartbeats 4000000 in
theorem rpop_any (hb n c : Nat) (A : Option Addr) (l : List Tm) (x : Tm) (w : World) (hw : HpAt hb (.slice A (n + 1) c) l w) (hl : l.length = n + 1) (hx : l[n]? = some x) (hn : n ≤ 1000) :
    Calls Try.prog 151 #[.pointer (some ⟨hb, 0, none⟩)] w fun e w' => e = .returned (.iface 62 x.val) ∧ HpAt hb (.slice A n c) (l.take n) w' ∧ w.grownBy w' (some hb) := by
  have HW := Lib.hid hw
  have HO := Lib.hid (show w.ownsRow (hb + 1) 62 2 (.slice A (n + 1) c) (n + 1) (l.flatMap Tm.cs) by have h := hw.2; rw [hl] at h; exact h)
  have z := blk_lt hw.1
  have q0 := cellsAt hw.1 0
  have f0 := frozAt hw.1
  simp at q0
  have hrow := Row.of_own Tm.cs_len HO.out hl.symm
  obtain ⟨g, c', hv', hg1, hg2, hnc⟩ := own_form HO.out (by omega)
  injection hv' with e1 e2 e3
  subst e1 e3
  obtain ⟨b1, o1, c1, hv1, -, -, hX⟩ := hrow.at_ hx
  rw [hl] at hv1
  injection hv1 with e1 e4 e3
  injection e1 with e1
  injection e1 with e1 e5 e6
  subst e1 e5 e3
  have c0 := hX 0 _ rfl
  have c1 := hX 1 _ rfl
  simp only [Nat.zero_add, Nat.add_zero] at c0 c1
  have HLN := Lib.hid hl
  clear hX hrow hx hw hl e2 e4 e6
  obtain ⟨xa, xs⟩ := x
  unfold Tm.val
  simp only at c0 c1 ⊢
  go_enter Try.func151, Try.ntmps151
  go_wp2_with fail
  go_ret
  have h1 := blk_set HW.out.1 0 (.slice (some ⟨g, 0, none⟩) n c)
  simp at h1
  have hlt : (l.take n).length = n := by rw [List.length_take, HLN.out]; omega
  refine ⟨rfl, ⟨heap_below h1 (bel_alloc (Below.refl _ _) _), ?_⟩, gby_alloc (gby_set (gby_refl w (some hb)) 0 _) _⟩
  rw [hlt]
  exact World.ownsRow.alloc (own_set (own_cut HO.out) (p := ⟨hb, 0, none⟩) (Nat.lt_succ_self hb) _) _
theorem ch2_of_own {hb : Nat} {v : Value} {w w' : World} (h : w.grownBy w' v.ownBlock) : Ch2 hb v.ownBlock w w' := Ch2.row h
/-- What heap.Pop leaves. -/
def PopTo (hb n c : Nat) (A : Option Addr) (l : List Tm) (x : Tm) (w' : World) : Prop :=
  ∃ l', (x :: l').Perm l ∧ (∀ y ∈ l', x.a ≤ y.a) ∧ HpAt hb (.slice A n c) l' w' ∧ HpF (key l') n
theorem pop_plain {l l1 l2 : List Tm} {n : Nat} {x : Tm} (hl : l.length = n + 1) (hh : HpF (key l) (n + 1)) (h1 : l1 = swpL l 0 n) (h2 : l2.Perm l1) (h3 : HpF (key l2) n) (h4 : ∀ j, n ≤ j → l2[j]? = l1[j]?) (hx : l2[n]? = some x) :
    (x :: l2.take n).Perm l ∧ (∀ y ∈ l2.take n, x.a ≤ y.a) ∧ HpF (key (l2.take n)) n := by
  have hlen : l2.length = n + 1 := by rw [h2.length_eq, h1, swpL_len, hl]
  have hsp : l2 = l2.take n ++ [x] := by
    conv => lhs; rw [← List.take_append_drop n l2]
    rw [List.drop_eq_getElem_cons (by omega), List.drop_of_length_le (by omega)]
    obtain ⟨_, h⟩ := List.getElem?_eq_some_iff.1 hx
    rw [h]
  have hper : (x :: l2.take n).Perm l := by
    have e1 : (l2.take n ++ [x]).Perm l := by rw [← hsp]; exact h2.trans (by rw [h1]; exact swp_perm _ _ _)
    exact (List.perm_append_singleton x (l2.take n)).symm.trans e1
  have hxk : x.a = key l 0 := by
    have e := h4 n (Nat.le_refl _)
    rw [hx, h1] at e
    have e2 : key (swpL l 0 n) n = x.a := by unfold key; rw [← e]
    rw [← e2, key_swp (by omega) (by omega), if_pos rfl]
  refine ⟨hper, fun y hy => ?_, hp_take h3 (by omega)⟩
  have hy2 : y ∈ l := hper.subset (List.mem_cons_of_mem _ hy)
  obtain ⟨i, hi, rfl⟩ := List.getElem_of_mem hy2
  have := hp_root hh i (by omega)
  rw [key_at hi] at this
  omega
set_option maxRecDepth 100000 in
set_option maxHeartbeats 4000000 in
theorem hpop_any (hb n c : Nat) (A : Option Addr) (l : List Tm) (w : World) (hw : HpAt hb (.slice A (n + 1) c) l w) (hl : l.length = n + 1) (hh : HpF (key l) (n + 1)) (hn : n ≤ 900) :
    Calls Try.prog 75 #[.iface 100 (.pointer (some ⟨hb, 0, none⟩))] w fun e w' => ∃ x, e = .returned (.iface 62 x.val) ∧ PopTo hb n c A l x w' ∧ Ch2 hb (Value.slice A (n + 1) c).ownBlock w w' := by
  have HW := Lib.hid hw
  have HLN := Lib.hid hl
  have HH := Lib.hid hh
  have hcell := cellsAt hw.1 0
  simp at hcell
  have mN := met_len hb A (n + 1) c w hcell
  have mS := met_swap hb A (n + 1) c w hcell
  clear hw hl hh hcell
  go_enter Try.func75, Try.ntmps75
  go_wp2_with fail
  refine (tlen_any A (n + 1) c _).mono ?_
  rintro e w1 ⟨rfl, rfl⟩
  have HSW := Lib.hid (tswap_any (hb + 1) l _ _ HW.out.2 (by rw [HLN.out]; omega) 0 n (by rw [HLN.out]; omega) (by rw [HLN.out]; omega))
  go_wp2_with fail
  refine HSW.out.mono ?_
  rintro e w2 ⟨rfl, ho2, hg2⟩
  have HA2 := Lib.hid (show HpAt hb (.slice A (n + 1) c) (swpL l 0 n) w2 from ⟨heap_grown' HW.out.1 hg2 HW.out.blk, by rw [swpL_len]; exact ho2⟩)
  have HG2 := Lib.hid hg2
  clear ho2 hg2 mN mS
  have hln2 : (swpL l 0 n).length = n + 1 := by rw [swpL_len]; exact HLN.out
  have HDN := Lib.hid (down_any hb _ (swpL l 0 n) n w2 HA2.out (by rw [hln2]; omega) (by rw [hln2]; omega) (dn_start HH.out (fun x => key_swp (by rw [HLN.out]; omega) (by rw [HLN.out]; omega) x)))
  clear hln2
  go_wp2_with fail
  refine HDN.out.mono ?_
  rintro e w3 ⟨⟨bq, rfl⟩, ⟨l3, hper3, hhp3, hout3, hat3⟩, hg3⟩
  have hl3 : l3.length = n + 1 := by rw [hper3.length_eq, swpL_len]; exact HLN.out
  obtain ⟨x, hx⟩ : ∃ x, l3[n]? = some x := ⟨_, List.getElem?_eq_getElem (by omega)⟩
  have HPL := Lib.hid (pop_plain HLN.out HH.out rfl hper3 hhp3 hout3 hx)
  have HA3 := Lib.hid hat3
  have HG3 := Lib.hid hg3
  have HRP := Lib.hid (rpop_any hb n c A l3 x w3 hat3 hl3 hx (by omega))
  have mP := met_pop hb w3
  clear hper3 hhp3 hout3 hat3 hg3 hl3 hx
  go_wp2_with fail
  refine HRP.out.mono ?_
  rintro e w4 ⟨rfl, hat4, hg4⟩
  have HA4 := Lib.hid hat4
  have HG4 := Lib.hid hg4
  clear hat4 hg4 mP
  go_wp2_with fail
  go_ret
  exact ⟨x, rfl, ⟨l3.take n, HPL.out.1, HPL.out.2.1, HA4.out, HPL.out.2.2⟩, ((Ch2.row HG2.out).trans (Ch2.row HG3.out)).trans (Ch2.box HG4.out)⟩
end Go.Proofs.Ytlboehpgpbchhaa
