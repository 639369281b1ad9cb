/-
  WALKS of the law TopDue: Heap.Due.
-/
import Derived.Test.YtlboehpgpbchhaaDueW9
set_option linter.unusedVariables false
set_option linter.unusedSimpArgs false
namespace Go.Proofs.Ytlboehpgpbchhaa
open Go.RowKit

def sliceLen : Value → Nat
  | .slice _ n _ => n
  | _ => 0
/-- What has come out of a heap up to now. -/
structure DuP (l : List Tm) (mark : Int) (out l' : List Tm) : Prop where
  per : (out ++ l').Perm l
  srt : out.Pairwise (fun x y => x.a ≤ y.a)
  low : ∀ x ∈ out, ∀ y ∈ l', x.a ≤ y.a
  mrk : ∀ x ∈ out, x.a ≤ mark
def DuRel (hb : Nat) (A : Option Addr) (c : Nat) (r : Option Nat) (l : List Tm) (mark : Int) (w : World) (vo : Value) (wr : World) : Prop :=
  ∃ (out l' : List Tm), wr.ownsRow w.heap.size 62 2 vo out.length (out.flatMap Tm.cs) ∧ HpAt hb (.slice A l'.length c) l' wr ∧ HpF (key l') l'.length ∧ DuP l mark out l' ∧ Ch2 hb r w wr
/-- What Due leaves. -/
def DuTo (hb : Nat) (r : Option Nat) (l : List Tm) (mark : Int) (w : World) (e : Ending) (w' : World) : Prop :=
  ∃ (vo : Value) (out l' : List Tm), e = .returned vo ∧ w'.ownsRow w.heap.size 62 2 vo out.length (out.flatMap Tm.cs) ∧ HpOk hb l' w' ∧ DuP l mark out l' ∧ (∀ y ∈ l', mark < y.a) ∧ Ch2 hb r w w'
theorem dup_step {l out l' l2 : List Tm} {mark : Int} {x : Tm} (h : DuP l mark out l') (hp : (x :: l2).Perm l') (hmin : ∀ y ∈ l2, x.a ≤ y.a) (hm : x.a ≤ mark) : DuP l mark (out ++ [x]) l2 := by
  have hx : x ∈ l' := hp.subset List.mem_cons_self
  refine ⟨?_, ?_, ?_, ?_⟩
  · rw [List.append_assoc]
    exact (hp.append_left out).trans h.per
  · rw [List.pairwise_append]
    exact ⟨h.srt, List.pairwise_singleton _ _, fun a ha b hb => by rw [List.mem_singleton.1 hb]; exact h.low a ha x hx⟩
  · intro a ha y hy
    rcases List.mem_append.1 ha with h1 | h1
    · exact h.low a h1 y (hp.subset (List.mem_cons_of_mem _ hy))
    · rw [List.mem_singleton.1 h1]; exact hmin y hy
  · intro a ha
    rcases List.mem_append.1 ha with h1 | h1
    · exact h.mrk a h1
    · rw [List.mem_singleton.1 h1]; exact hm
set_option maxRecDepth 100000 in
set_option maxHeartbeats 4000000 in
theorem due_any (hb c : Nat) (A : Option Addr) (l : List Tm) (mark : Int) (w : World) (hw : HpAt hb (.slice A l.length c) l w) (hh : HpF (key l) l.length) (hn : l.length ≤ 900) :
    Calls Try.prog 32 #[.pointer (some ⟨hb, 0, none⟩), .int .i64 mark] w (DuTo hb (Value.slice A l.length c).ownBlock l mark w) := by
  have HW := Lib.hid hw
  have HH := Lib.hid hh
  have hz := blk_lt hw.1
  have HOB := Lib.hid (fun k hk => (hw.2.lt k hk).2)
  obtain ⟨r, hr⟩ : ∃ r, (Value.slice A l.length c).ownBlock = r := ⟨_, rfl⟩
  have HRA := Lib.hid (show ∀ m, (Value.slice A m c).ownBlock = r by intro m; rw [← hr]; cases A <;> rfl)
  rw [hr] at HOB ⊢
  obtain ⟨n, hn'⟩ : ∃ n, l.length = n := ⟨_, rfl⟩
  have HN := Lib.hid hn'
  rw [hn'] at hn
  obtain ⟨i0, hi, hz0, hz1, hz2⟩ := info_parts info_tm
  have HI := Lib.hid hi
  have HZ0 := Lib.hid hz0
  have HZ1 := Lib.hid hz1
  have HZ2 := Lib.hid hz2
  clear hw hh hr hn' hi hz0 hz1 hz2
  go_enter Try.func32, Try.ntmps32
  go_wp2_with fail
  go_loopw [5] (fun vo wr => DuRel hb A c r l mark w vo wr) (fun vo _ => n - sliceLen vo)
  case atStart => exact ⟨[], l, World.ownsRow_nil _ _ _ _, HW.out, HH.out, ⟨List.Perm.refl _, List.Pairwise.nil, by simp, by simp⟩, Ch2.refl _ _ _⟩
  case round =>
    obtain ⟨out, l', hown, hat, hhp, hdu, hch⟩ := hrel
    have HO := Lib.hid hown
    have HA := Lib.hid hat
    have HP := Lib.hid hhp
    have HD := Lib.hid hdu
    have HC := Lib.hid hch
    have hlen : out.length + l'.length = n := by have := hdu.per.length_eq; rw [List.length_append] at this; rw [this]; exact HN.out
    obtain ⟨Ao, co, rfl⟩ := own_slice hown
    have HLE := Lib.hid (hlen_any hb l' wr ⟨⟨_, hat⟩, hhp⟩)
    obtain ⟨k, hk⟩ : ∃ k, out.length = k := ⟨_, rfl⟩
    obtain ⟨m, hm⟩ : ∃ m, l'.length = m := ⟨_, rfl⟩
    have HK := Lib.hid hk
    have HM := Lib.hid hm
    rw [hk, hm] at hlen
    rw [hk] at HO ⊢
    rw [hm] at HA HP HLE
    clear hown hat hhp hdu hch hk hm
    cases m with
    | zero =>
      go_wp2_with fail
      refine HLE.out.mono ?_
      rintro e w2 ⟨rfl, rfl⟩
      go_wp2_with fail
      go_ret
      exact ⟨_, out, l', rfl, by rw [HK.out]; exact HO.out, ⟨⟨_, HA.out⟩, by rw [HM.out]; exact HP.out⟩, HD.out, fun y hy => by have := List.length_pos_of_mem hy; have := HM.out; omega, HC.out⟩
    | succ m =>
      have hA := HA.out
      have hz2 := blk_lt hA.1
      have q0 := cellsAt hA.1 0
      simp at q0
      have hdl : decide ((0 : Int) < ((m + 1 : Nat) : Int)) = true := decide_eq_true (by omega)
      obtain ⟨x, hx⟩ : ∃ x, l'[0]? = some x := ⟨_, List.getElem?_eq_getElem (by rw [HM.out]; omega)⟩
      obtain ⟨g, c', hv', hg1, hg2, hnc⟩ := own_form hA.2 (by rw [HM.out]; omega)
      rw [HM.out] at hv'
      injection hv' with e1 e2 e3
      subst e1 e3
      have hrow := Row.of_own Tm.cs_len hA.2 rfl
      obtain ⟨b1, o1, c1, hv1, -, -, hX⟩ := hrow.at_ hx
      rw [HM.out] at hv1
      injection hv1 with e1 e4 e3
      injection e1 with e1
      injection e1 with e1 e5 e6
      subst e1 e5 e3
      have c0 := hX 0 _ rfl
      simp only [Nat.zero_add, Nat.add_zero, Nat.zero_mul] at c0
      have HX := Lib.hid hx
      clear hX hrow hx e2 e4 e6 hA
      by_cases hmk : x.a ≤ mark
      · have hd : decide (x.a ≤ mark) = true := decide_eq_true hmk
        obtain ⟨xa0, xs0⟩ := x
        simp only at c0 hmk hd
        go_wp2_with fail
        refine HLE.out.mono ?_
        rintro e w2 ⟨rfl, rfl⟩
        go_wp2_with fail
        refine (tpop_any hb m c _ l' _ HA.out HM.out HP.out (by omega)).mono ?_
        rintro e w3 ⟨⟨ya, ys⟩, rfl, ⟨l2, hper, hmin, hat3, hhp3⟩, hch3⟩
        rw [HRA.out] at hch3
        unfold Tm.val
        simp only
        have hym : ya ≤ mark := by
          have h1 : (⟨xa0, xs0⟩ : Tm) ∈ (⟨ya, ys⟩ : Tm) :: l2 := hper.symm.subset (List.mem_of_getElem? HX.out)
          rcases List.mem_cons.1 h1 with h2 | h2
          · injection h2 with h2
            omega
          · have := hmin _ h2
            simp only at this
            omega
        have hl2 : l2.length = m := by have := hper.length_eq; rw [List.length_cons, HM.out] at this; omega
        have O3 := own_keep HO.out (fun j hj => hch3.block j (HO.out.lt j hj).2 (by have := (HO.out.lt j hj).1; omega) (fun e => by have := HOB.out j e.symm; have := (HO.out.lt j hj).1; omega))
        have HO3 := Lib.hid O3
        have hs3 : w.heap.size ≤ w3.heap.size := Nat.le_trans HC.out.size hch3.size
        have HDU := Lib.hid (dup_step HD.out hper hmin hym)
        have HCH := Lib.hid (HC.out.trans hch3)
        have HA3 := Lib.hid hat3
        have HP3 := Lib.hid hhp3
        have HL2 := Lib.hid hl2
        clear hper hmin hat3 hhp3 hch3 O3 hl2 hym
        go_upto_region 5 with fail
        obtain ⟨W4, hW4⟩ : ∃ X, X = w3.alloc (.cells #[.int .i64 ya, .string ys] 62) := ⟨_, rfl⟩
        rw [← hW4]
        have O4 := Lib.hid (show W4.ownsRow _ _ _ _ _ _ by rw [hW4]; exact World.ownsRow.alloc HO3.out (.cells #[.int .i64 ya, .string ys] 62))
        have Bp := show W4.heap[w3.heap.size]? = some (.cells #[.int .i64 ya, .string ys] 62 (0, 0)) by rw [hW4]; exact heap_at _ _ _ rfl
        have B4 := Lib.hid (show Below w.heap.size w3 W4 by rw [hW4]; exact (Below.refl w.heap.size w3).alloc hs3 _)
        have hs4 : w.heap.size ≤ W4.heap.size := Nat.le_trans hs3 B4.out.size
        clear hW4
        have zp := blk_lt Bp
        have p0 := cellsAt Bp 0
        have p1 := cellsAt Bp 1
        simp at p0 p1
        clear Bp
        go_wp2_with (at_builtin; refine wpList_push _ rfl _ _ 66 rfl w.heap.size 62 i0 (.agg #[.int .i64 0, .string ⟨#[]⟩]) 2 24 Try.underlying66 HI.out HZ0.out HZ1.out HZ2.out rfl (by decide) _ _ _ rfl O4.out #[.int .i64 ya, .string ys] 62 rfl rfl (tm_one ⟨ya, ys⟩) (by unfold maxLen; omega) (by omega) hs4 ?_)
        intro v5 W5 hown5 hb5 _
        obtain ⟨A5, c5, rfl⟩ := own_slice hown5
        have HO5 := Lib.hid hown5
        have BL := Lib.hid (show Below w.heap.size w3 W5 from B4.out.trans hb5)
        clear hown5 hb5
        go_wp2_with fail
        go_roundw
        case rel =>
          refine ⟨out ++ [⟨ya, ys⟩], l2, ?_, ?_, ?_, HDU.out, HCH.out.low BL.out⟩
          · rw [List.length_append, HK.out, List.flatMap_append]
            exact HO5.out
          · rw [HL2.out]
            exact HA3.out.low hz (fun k hk => HOB.out k (by rw [← HRA.out m]; exact hk)) BL.out
          · rw [HL2.out]
            exact HP3.out
        case measure => simp [sliceLen]; omega
      · have hd : decide (x.a ≤ mark) = false := decide_eq_false hmk
        obtain ⟨xa0, xs0⟩ := x
        simp only at c0 hmk hd
        go_wp2_with fail
        refine HLE.out.mono ?_
        rintro e w2 ⟨rfl, rfl⟩
        go_wp2_with fail
        go_ret
        refine ⟨_, out, l', rfl, by rw [HK.out]; exact HO.out, ⟨⟨_, HA.out⟩, by rw [HM.out]; exact HP.out⟩, HD.out, fun y hy => ?_, HC.out⟩
        obtain ⟨i, hi, rfl⟩ := List.getElem_of_mem hy
        have h1 := hp_root HP.out i (by rw [← HM.out]; exact hi)
        rw [key_at hi] at h1
        have h2 : key l' 0 = xa0 := by unfold key; rw [HX.out]
        omega
end Go.Proofs.Ytlboehpgpbchhaa
