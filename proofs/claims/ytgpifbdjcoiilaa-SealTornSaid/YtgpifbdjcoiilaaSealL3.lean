/-
  WALKS of the laws of layer 3: SealOnce, SealBack.
-/
import Derived.Test.YtgpifbdjcoiilaaSealL2
namespace Go.Proofs.Ytgpifbdjcoiilaa
open Go.RowKit

/-- Frames one behind the other, as a string. -/
def rowB (L : List ByteArray) : ByteArray := ⟨(rowL L).toArray⟩
theorem rowB_snoc (L : List ByteArray) (b : ByteArray) : rowB L ++ frm b = rowB (L ++ [b]) := by
  apply bytes_ext; rw [data_app]; simp [rowB, rowL_append, rowL]
theorem rowB_size (L : List ByteArray) : (rowB L).size = (rowL L).length := by rw [← len_data]; simp [rowB]
theorem rowL_take_le (L : List ByteArray) (k : Nat) : (rowL (L.take k)).length ≤ (rowL L).length := by
  conv => rhs; rw [← List.take_append_drop k L, rowL_append]
  simp

def OnRel (L : List ByteArray) (w0 : World) (r i : Value) (wr : World) : Prop :=
  ∃ k : Nat, k ≤ L.length ∧ i = .int .i64 k ∧ r = .string (rowB (L.take k)) ∧ Below w0.heap.size w0 wr

theorem own_cell {w : World} {B g cap n : Nat} {L : List ByteArray} (h : w.ownsRow B 9 1 (.slice (some ⟨g, 0, none⟩) n cap) n (strCs L)) (hn : n = L.length) (i : Nat) (hi : i < L.length) : w.cell? ⟨g, i, none⟩ = some (.string L[i]) := by
  rw [h.cellAt i (by omega)]; simp [strCs, hi]

set_option maxHeartbeats 2000000 in
set_option maxRecDepth 100000 in
theorem sonce_walk (s : ByteArray) (w : World) (hs : s.size ≤ 9223372036854775807) :
    Calls Try.prog 10 #[.string s] w fun e w' => e = .returned (.bool true) ∧ Below w.heap.size w w' := by
  have hS := shortS_size 10000 s
  have Hsh := Lib.hid (sshort_any s w hs)
  obtain ⟨S, hSe⟩ : ∃ S, shortS 10000 s = S := ⟨_, rfl⟩
  rw [hSe] at hS Hsh
  clear hSe
  have hlen := allF_len S (S.size + 1) 0 (by omega)
  have honce := allF_once S (S.size + 1) 0 (by omega) (by omega)
  obtain ⟨⟨L, p, e0⟩, hr⟩ : ∃ r, allR S = r := ⟨_, rfl⟩
  have hr' := hr
  unfold allR at hr'
  rw [hr'] at hlen honce
  simp only [Nat.sub_zero, List.drop_zero] at hlen honce
  have hL : L.length ≤ 10000 := by omega
  have hp : p ≤ S.size := by omega
  obtain ⟨ho1, _, ho3, ho4⟩ := honce
  have hrow : rowB L = S.extract 0 p := by
    apply bytes_ext; rw [data_extract, List.drop_zero, Nat.sub_zero, ho1]; simp [rowB]
  have hrl : (rowL L).length ≤ 10000 := by rw [← ho1]; simp; omega
  have Hr := Lib.hid hr
  have Hrow := Lib.hid hrow
  have Ho3 := Lib.hid ho3
  have Ho4 := Lib.hid ho4
  have Hrl := Lib.hid hrl
  clear hr hr' hlen ho1 ho3 ho4 hrow hrl
  have h0 : ((crc (ByteArray.mk #[]).data.toList : Int) != 0) = true := by decide
  go_enter Try.func10, Try.ntmps10
  go_wp2_with fail
  refine (Hsh.out).mono ?_
  rintro e w0 ⟨rfl, rfl⟩
  go_wp2_with fail
  refine (all_any S _ (by omega)).mono ?_
  rintro e w1 hpost
  unfold AllPost at hpost
  rw [Hr.out] at hpost
  obtain ⟨va, rfl, hown1, hb1⟩ := hpost
  obtain ⟨ga, ca, rfl⟩ : ∃ ga ca, va = .slice ga L.length ca := by
    rcases hown1.2 with ⟨rfl, h0⟩ | ⟨g, cap, cur, rfl, _⟩
    · rw [h0]; exact ⟨_, _, rfl⟩
    · exact ⟨_, _, rfl⟩
  have Hown1 := Lib.hid hown1
  clear hown1
  go_wp2_with fail
  go_loopw [6, 21] (fun r i wr => OnRel L w1 r i wr) (fun _ i _ => L.length - (intOf i).toNat)
  case atStart => exact ⟨0, by omega, rfl, rfl, Below.refl _ _⟩
  case round =>
    obtain ⟨k, hk, rfl, rfl, hbel⟩ := hrel
    by_cases hlt : k < L.length
    · obtain ⟨g, rfl⟩ : ∃ g, ga = some ⟨g, 0, none⟩ := by
        rcases Hown1.out.2 with ⟨hv, h0⟩ | ⟨g, cap, cur, hv, _⟩
        · omega
        · simp only [Value.slice.injEq] at hv; exact ⟨g, hv.1⟩
      have hcell := own_cell (ownsRow_below Hown1.out hbel) rfl k hlt
      have hbs := Ho4.out L[k] (List.getElem_mem hlt)
      have hrk : (rowL (L.take (k + 1))).length ≤ 10000 := Nat.le_trans (rowL_take_le L (k + 1)) Hrl.out
      have hts : L.take (k + 1) = L.take k ++ [L[k]] := by rw [List.take_succ_eq_append_getElem hlt]
      obtain ⟨b, hbe⟩ : ∃ b, L[k] = b := ⟨_, rfl⟩
      rw [hbe] at hcell hbs hts
      obtain ⟨R, hRe⟩ : ∃ R, rowB (L.take k) = R := ⟨_, rfl⟩
      have hR2 : R ++ frm b = rowB (L.take (k + 1)) := by rw [← hRe, rowB_snoc, hts]
      have hsum : R.size + (frm b).size ≤ 9223372036854775807 := by
        have : (R ++ frm b).size ≤ 10000 := by rw [hR2, rowB_size]; exact hrk
        rw [ByteArray.size_append] at this; omega
      have hadd := fun W => run_string_add_sum (P := Try.prog) W R (frm b) hsum
      rw [hRe]
      have HR2 := Lib.hid hR2
      clear hRe hR2 hts hbe hsum hrk
      go_wp2_with fail
      refine (sput_yes b _ hbs).mono ?_
      rintro e w2 ⟨rfl, hb2⟩
      go_wp2_with fail
      go_roundw
      case rel => exact ⟨k + 1, by omega, by go_num, by rw [HR2.out], Below.then hbel hb2⟩
      case measure => simp [intOf]; omega
    · have hke : L.take k = L := List.take_of_length_le (by omega)
      rw [hke]
      have hp0 : (0 : Int) ≤ (p : Int) := by omega
      have hp1 : (p : Int) ≤ (S.size : Int) := by omega
      have hrow := Hrow.out
      by_cases he : e0 = 0
      · have hps := Ho3.out.1 he
        have hb1' : (e0 == 0) = true := by simpa using he
        have hb2' : ((p : Int) == (S.size : Int)) = true := beq_iff_eq.2 (by omega)
        clear he hke hps
        go_wp2_with fail
        refine (sum_any ⟨#[]⟩ _ (by decide)).mono ?_
        rintro e w0 ⟨rfl, rfl⟩
        go_wp2_with fail
        go_ret
        exact ⟨rfl, Below.then hb1 hbel⟩
      · have hps : ¬ p = S.size := fun h => he (Ho3.out.2 h)
        have hb1' : (e0 == 0) = false := by simpa using he
        have hb2' : ((p : Int) == (S.size : Int)) = false := beq_eq_false_iff_ne.2 (by omega)
        clear he hke hps
        go_wp2_with fail
        refine (sum_any ⟨#[]⟩ _ (by decide)).mono ?_
        rintro e w0 ⟨rfl, rfl⟩
        go_wp2_with fail
        go_ret
        exact ⟨rfl, Below.then hb1 hbel⟩
end Go.Proofs.Ytgpifbdjcoiilaa
