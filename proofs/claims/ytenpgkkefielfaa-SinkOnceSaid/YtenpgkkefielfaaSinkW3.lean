/-
  WALKS of layer 19: count, Right.
-/
import Derived.Test.YtenpgkkefielfaaSinkW2
set_option linter.unusedVariables false
set_option linter.unusedSimpArgs false
namespace Go.Proofs.Ytenpgkkefielfaa
open Go.RowKit

def capN (n : Int) : Int := min n 20001
def cntTo (st : List Stg) (n : Int) : Nat → Int
  | 0 => n
  | k + 1 => capN (cntTo st n k) + capN (st[k]!.l.length : Int)
def cntS (op : List Res) (st : List Stg) (out : List Res) : Int := cntTo st (capN (op.length : Int) + capN (out.length : Int)) st.length
theorem capN_lo {n : Int} (h : 0 ≤ n) : 0 ≤ capN n := by unfold capN; omega
theorem capN_hi {n : Int} : capN n ≤ 20001 := by unfold capN; omega
theorem cntTo_bd (st : List Stg) (n : Int) (h0 : 0 ≤ n) (h1 : n ≤ 40002) : ∀ k, 0 ≤ cntTo st n k ∧ cntTo st n k ≤ 40002
  | 0 => ⟨h0, h1⟩
  | k + 1 => by
    have h := cntTo_bd st n h0 h1 k
    have a := capN_lo h.1
    have b := capN_hi (n := cntTo st n k)
    have c := capN_lo (n := (st[k]!.l.length : Int)) (by omega)
    have d := capN_hi (n := (st[k]!.l.length : Int))
    show 0 ≤ capN (cntTo st n k) + capN (st[k]!.l.length : Int) ∧ capN (cntTo st n k) + capN (st[k]!.l.length : Int) ≤ 40002
    omega
def CntRel (st : List Stg) (n : Int) (w0 : World) (i c : Value) (wr : World) : Prop := ∃ k : Nat, k ≤ st.length ∧ i = .int .i64 k ∧ c = .int .i64 (cntTo st n k) ∧ Below w0.heap.size w0 wr
set_option maxRecDepth 100000 in
set_option maxHeartbeats 1000000 in
theorem count_any (op : List Res) (st : List Stg) (last : Int) (out : List Res) (v : Value) (w : World) (hv : SinkAt w v op st last out) :
    Calls Try.prog 55 #[v] w fun e w' => e = .returned (.int .i64 (cntS op st out)) ∧ Below w.heap.size w w' := by
  obtain ⟨vo, vs, vu, rfl, h1, ⟨h2, h3, h4⟩, h5, h6⟩ := hv
  obtain ⟨⟨A1, c1, rfl, hc1, -⟩, -, m1⟩ := h1
  obtain ⟨⟨A3, c3, rfl, hc3, -⟩, -, m3⟩ := h6
  obtain ⟨A2, c2, rfl, hc2, hA⟩ := h2
  have HA := Lib.hid hA
  have H3 := Lib.hid h3
  clear hA h3
  unfold maxLen at m1 m3 h4
  obtain ⟨s, hs⟩ : ∃ s : Int, capN (op.length : Int) + capN (out.length : Int) = s := ⟨_, rfl⟩
  unfold cntS
  rw [hs]
  have hs0 : 0 ≤ s ∧ s ≤ 40002 := by
    have a := capN_lo (n := (op.length : Int)) (by omega)
    have b := capN_hi (n := (op.length : Int))
    have c := capN_lo (n := (out.length : Int)) (by omega)
    have d := capN_hi (n := (out.length : Int))
    omega
  have hB := cntTo_bd st s hs0.1 hs0.2
  have HBD := Lib.hid hB
  have HS := Lib.hid hs
  clear hB hs
  obtain ⟨n, hn⟩ : ∃ n, st.length = n := ⟨_, rfl⟩
  rw [hn] at h4 hc2 ⊢
  have Hn := Lib.hid hn
  clear hn
  go_enter Try.func55, Try.ntmps55
  go_wp2_with fail
  go_loopw [18, 3] (fun i c wr => CntRel st s w i c wr) (fun i _ _ => n - (intOf i).toNat)
  case atStart => exact ⟨0, Nat.zero_le _, rfl, by rw [← HS.out]; rfl, bel_alloc (Below.refl _ _) _⟩
  case round =>
    obtain ⟨k, hk, rfl, rfl, hbel⟩ := hrel
    rw [Hn.out] at hk
    have HB := Lib.hid hbel
    clear hbel
    obtain ⟨z, hz⟩ : ∃ z, cntTo st s k = z := ⟨_, rfl⟩
    have hzb := HBD.out k
    rw [hz] at hzb ⊢
    have HZ := Lib.hid hz
    clear hz
    by_cases hlt : k < n
    · obtain ⟨x, hi⟩ : ∃ x, st[k]? = some x := ⟨_, List.getElem?_eq_getElem (by rw [Hn.out]; exact hlt)⟩
      obtain ⟨b, o, rfl, hb, hX⟩ := HA.out (by rw [Hn.out]; omega)
      have c0 := (HB.out.cell (p := ⟨b, o + k * 2 + 0, none⟩) hb).trans (hX k x 0 _ hi rfl)
      have c1 := (HB.out.cell (p := ⟨b, o + k * 2 + 1, none⟩) hb).trans (hX k x 1 _ hi rfl)
      have hxk : st[k]! = x := by rw [List.getElem!_eq_getElem?_getD, hi]; rfl
      have hat := H3.out x (List.mem_of_getElem? hi)
      clear hX
      obtain ⟨xn, row, xl⟩ := x
      obtain ⟨_, ⟨AX, cx, hrow, hcx, -⟩, -, mx⟩ := hat
      have hrow' : row = .slice AX xl.length cx := hrow
      subst hrow'
      simp only [Nat.add_zero] at c0 c1 hxk hcx mx
      unfold maxLen at mx
      have HX := Lib.hid hxk
      clear hxk hi hrow
      go_wp2_with fail
      go_roundw
      case rel => exact ⟨k + 1, by rw [Hn.out]; omega, by go_num, by show _ = Value.int .i64 (capN (cntTo st s k) + capN (st[k]!.l.length : Int)); rw [HZ.out, HX.out]; rfl, bel_alloc HB.out _⟩
      case measure => simp [intOf]; omega
    · have hkn : k = n := by omega
      subst hkn
      go_wp2_with fail
      go_ret
      exact ⟨by rw [HZ.out]; rfl, HB.out⟩
end Go.Proofs.Ytenpgkkefielfaa
