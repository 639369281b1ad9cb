/-
  WALKS of layer 19: is there a stage of that number.
-/
import Derived.Test.YtenpgkkefielfaaSinkW17
set_option linter.unusedVariables false
set_option linter.unusedSimpArgs false
namespace Go.Proofs.Ytenpgkkefielfaa
open Go.RowKit

def hasN (st : List Stg) (n : Int) (k : Nat) : Bool := !(st[k]!.n == n)
/-- What IndexFunc tells of stages. -/
def IxsOf (st : List Stg) (n : Int) (w : World) (e : Ending) (w' : World) : Prop := ∃ r : Int, e = .returned (.int .i64 r) ∧ decide (0 ≤ r) = !((List.range st.length).all (hasN st n)) ∧ Below w.heap.size w w'
def IxsRel (st : List Stg) (n : Int) (w : World) (i : Value) (wr : World) : Prop := ∃ k : Nat, k ≤ st.length ∧ i = .int .i64 k ∧ (List.range k).all (hasN st n) = true ∧ Below w.heap.size w wr
set_option maxRecDepth 100000 in
theorem cpred_any (xn : Int) (xr : Value) (n : Int) (g : Nat) (w : World) (b : Bool) (hb : (xn == n) = b) (hg : w.heap[g]? = some (.cells #[.int .i64 n] 3 (0, 0))) :
    Calls Try.prog 62 #[.agg #[.int .i64 xn, xr], .pointer (some ⟨g, 0, none⟩)] w fun e w' => e = .returned (.bool b) ∧ Below w.heap.size w w' := by
  have HB := Lib.hid hb
  have gz := blk_lt hg
  have g0 := cellsAt hg 0
  simp at g0
  clear hg hb
  go_enter Try.func62, Try.ntmps62
  go_wp2_with fail
  go_ret
  exact ⟨by rw [HB.out]; rfl, bel_alloc (Below.refl _ _) _⟩
set_option maxRecDepth 100000 in
set_option maxHeartbeats 1000000 in
theorem sindex_any (st : List Stg) (n : Int) (g : Nat) (v : Value) (w : World) (hv : Row Stg.cs 2 w v st ∧ (∀ x ∈ st, x.At w) ∧ st.length ≤ maxLen) (hg : w.heap[g]? = some (.cells #[.int .i64 n] 3 (0, 0))) :
    Calls Try.prog 73 #[v, .func (.func 62) #[] #[.pointer (some ⟨g, 0, none⟩)]] w (IxsOf st n w) := by
  have HW := Lib.hid hv.2.1
  have hl := hv.2.2
  have HG := Lib.hid hg
  unfold maxLen at hl
  obtain ⟨⟨A, c, rfl, hc, hA⟩, -⟩ := hv
  have HA := Lib.hid hA
  clear hA hg
  obtain ⟨ln, hn⟩ : ∃ n, st.length = n := ⟨_, rfl⟩
  rw [hn] at hl hc ⊢
  have Hn := Lib.hid hn
  clear hn
  go_enter Try.func73, Try.ntmps73
  go_wp2_with fail
  go_loopw [8] (fun i wr => IxsRel st n w i wr) (fun i _ => ln - (intOf i).toNat)
  case atStart => exact ⟨0, Nat.zero_le _, rfl, rfl, Below.refl _ _⟩
  case round =>
    obtain ⟨k, hk, rfl, hall, hbel⟩ := hrel
    rw [Hn.out] at hk
    have HB := Lib.hid hbel
    have HL := Lib.hid hall
    clear hbel hall
    by_cases hlt : k < ln
    · obtain ⟨x, hi⟩ : ∃ x, st[k]? = some x := ⟨_, List.getElem?_eq_getElem (by rw [Hn.out]; exact hlt)⟩
      obtain ⟨b, o, rfl, hb, hX⟩ := HA.out (by rw [Hn.out]; omega)
      have c0 := (HB.out.cell (p := ⟨b, o + k * 2 + 0, none⟩) hb).trans (hX k x 0 _ hi rfl)
      have c1 := (HB.out.cell (p := ⟨b, o + k * 2 + 1, none⟩) hb).trans (hX k x 1 _ hi rfl)
      have HXK := Lib.hid (show hasN st n k = !(x.n == n) by unfold hasN; rw [List.getElem!_eq_getElem?_getD, hi]; rfl)
      obtain ⟨-, ⟨Ax, cx, hxe, -, -⟩, -⟩ := HW.out x (List.mem_of_getElem? hi)
      clear hX hi
      obtain ⟨xn, xr, xl⟩ := x
      simp only [Nat.add_zero] at c0 c1 HXK hxe
      subst hxe
      have G1 := heap_below HG.out HB.out
      have gz := blk_lt G1
      have g0 := cellsAt G1 0
      simp at g0
      go_wp2_with fail
      obtain ⟨q, hq⟩ : ∃ q, (xn == n) = q := ⟨_, rfl⟩
      rw [hq] at HXK
      refine (cpred_any xn _ n g wr q hq G1).mono ?_
      rintro e w2 ⟨rfl, hb2⟩
      have HB2 := Lib.hid (bThen HB.out hb2)
      clear hb2 HB c0 c1 g0 gz G1 hq
      cases q with
      | false =>
        go_wp2_with fail
        go_roundw
        case rel => exact ⟨k + 1, by rw [Hn.out]; omega, by go_num, by rw [all_range_succ, HL.out, HXK.out]; rfl, HB2.out⟩
        case measure => simp [intOf]; omega
      | true =>
        go_wp2_with fail
        go_ret
        exact ⟨_, rfl, by rw [all_range_not (hasN st n) (by rw [Hn.out]; exact hlt) HXK.out]; simp, HB2.out⟩
    · have hkn : k = ln := by omega
      subst hkn
      go_wp2_with fail
      go_ret
      exact ⟨_, rfl, by rw [Hn.out, HL.out]; decide, HB.out⟩
theorem hasN_any (st : List Stg) (n : Int) : (List.range st.length).all (hasN st n) = !(st.any (fun x => x.n == n)) := by
  rw [Bool.eq_iff_iff]
  simp only [List.all_eq_true, List.mem_range, Bool.not_eq_true', List.any_eq_false]
  constructor
  · intro h x hx
    obtain ⟨k, hk, rfl⟩ := List.mem_iff_getElem.1 hx
    have := h k hk
    unfold hasN at this
    rw [List.getElem!_eq_getElem?_getD, List.getElem?_eq_getElem hk] at this
    simpa using this
  · intro h k hk
    have := h st[k] (List.getElem_mem hk)
    unfold hasN
    rw [List.getElem!_eq_getElem?_getD, List.getElem?_eq_getElem hk]
    simpa using this
set_option maxRecDepth 100000 in
theorem scontains_any (st : List Stg) (n : Int) (g : Nat) (v : Value) (w : World) (hv : Row Stg.cs 2 w v st ∧ (∀ x ∈ st, x.At w) ∧ st.length ≤ maxLen) (hg : w.heap[g]? = some (.cells #[.int .i64 n] 3 (0, 0))) (b : Bool) (hb : (List.range st.length).all (hasN st n) = !b) :
    Calls Try.prog 61 #[v, .func (.func 62) #[] #[.pointer (some ⟨g, 0, none⟩)]] w fun e w' => e = .returned (.bool b) ∧ Below w.heap.size w w' := by
  have HI := Lib.hid (sindex_any st n g v w hv hg)
  obtain ⟨⟨A, c, rfl, -, -⟩, -⟩ := hv
  have Hb := Lib.hid hb
  clear hb hg
  go_enter Try.func61, Try.ntmps61
  go_wp2_with fail
  refine (HI.out).mono ?_
  rintro e w2 ⟨r, rfl, hr, hb2⟩
  rw [Hb.out, Bool.not_not] at hr
  have HR := Lib.hid hr
  have HB2 := Lib.hid hb2
  clear hr hb2
  go_wp2_with fail
  go_ret
  exact ⟨by rw [← HR.out]; rfl, HB2.out⟩
end Go.Proofs.Ytenpgkkefielfaa
