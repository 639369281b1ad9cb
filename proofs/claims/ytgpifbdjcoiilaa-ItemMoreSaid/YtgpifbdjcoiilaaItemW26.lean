/-
  WALK of the law ItemMore.
-/
import Derived.Test.YtgpifbdjcoiilaaItemW25
namespace Go.Proofs.Ytgpifbdjcoiilaa
open Go.RowKit

theorem conv_one (c : UInt8) (m : Int) (hm : m = (c.toNat : Int)) (W : World) :
    (convert 48 9 (.slice (some ⟨W.heap.size, 0, none⟩) 1 1)).run Try.prog (W.alloc (.cells #[.int .u8 m] 5)) = .ok (.string ⟨#[c]⟩) (W.alloc (.cells #[.int .u8 m] 5)) := by
  subst hm
  refine run_convert_bytes_back _ 48 9 5 ⟨W.heap.size, 0, none⟩ 1 [c] Try.underlying48 Try.underlying5 Try.underlying9 ?_
  intro j hj
  obtain rfl : j = 0 := by simp at hj; omega
  show (W.alloc _).cell? ⟨W.heap.size, 0, none⟩ = _
  rw [new_cellI]; rfl
set_option maxHeartbeats 2000000 in
set_option maxRecDepth 100000 in
theorem more_item (i : It) (wf : i.Wf) (m : Int) (m0 : 0 ≤ m) (m1 : m ≤ 255) (w : World) :
    Calls Try.prog 16 #[itV i, .int .u8 m] w fun e w' => e = .returned (.bool true) ∧ Below w.heap.size w w' := by
  cases hR : rightI i with
  | true =>
    have h1 := fun W => put_any i wf W hR
    obtain ⟨p1, p2⟩ := bytesI_size i wf hR
    obtain ⟨c, hc⟩ : ∃ c : UInt8, m = (c.toNat : Int) := ⟨UInt8.ofNat m.toNat, by rw [u8_ofNat_toNat (by omega)]; omega⟩
    have hG := get_back i wf hR ⟨#[c]⟩
    rw [if_pos (show 0 < (⟨#[c]⟩ : ByteArray).size from Nat.zero_lt_one)] at hG
    have hsz : (bytesI i ++ (⟨#[c]⟩ : ByteArray)).size ≤ 140737488355328 := by rw [ByteArray.size_append]; show _ + 1 ≤ _; omega
    have h2 := fun W => getI_any (bytesI i ++ ⟨#[c]⟩) W hsz itZ 21 hG
    have hsz2 : ((bytesI i).extract 0 ((bytesI i).size - 1)).size ≤ 140737488355328 := by rw [ByteArray.size_extract]; omega
    have h3 := fun W => getI_any _ W hsz2 itZ 20 (get_cut i wf hR)
    have hcv := fun W => conv_one c m hc W
    obtain ⟨B, hB⟩ : ∃ B, bytesI i = B := ⟨_, rfl⟩
    rw [hB] at h1 h2 h3 p1 p2
    have hadd := fun W => run_string_add_sum (P := Try.prog) W B ⟨#[c]⟩ (show B.size + 1 ≤ _ by omega)
    clear hB hR wf hG hsz hsz2 hc m0 m1
    obtain ⟨kind, ek, ea, ev, ma, n, lo, hi, rk, rn, rv⟩ := i
    unfold itV itZ at h2 h3
    unfold itV at h1 ⊢
    simp only at h1 h2 h3 ⊢
    have H1 := Lib.hid h1
    have H2 := Lib.hid h2
    have H3 := Lib.hid h3
    clear h1 h2 h3
    have hb0 : ((B.size : Int) == 0) = false := beq_eq_false_iff_ne.2 (by omega)
    go_enter Try.func16, Try.ntmps16
    go_wp2_with fail
    refine (H1.out _).mono ?_
    rintro e w1 ⟨rfl, hb⟩
    have HB1 := Lib.hid (belA (Below.refl _ _) hb)
    clear hb
    go_wp2_with fail
    refine (H2.out _).mono ?_
    rintro e w2 ⟨rfl, hb⟩
    have HB2 := Lib.hid (belA HB1.out hb)
    clear hb HB1
    go_wp2_with fail
    refine (H3.out _).mono ?_
    rintro e w3 ⟨rfl, hb⟩
    have HB3 := Lib.hid (belA HB2.out hb)
    clear hb HB2
    go_wp2_with fail
    go_ret
    exact ⟨rfl, bel_alloc HB3.out _⟩
  | false =>
    have h1 := fun W => put_item_no i W hR
    clear hR wf
    obtain ⟨kind, ek, ea, ev, ma, n, lo, hi, rk, rn, rv⟩ := i
    unfold itV at h1 ⊢
    simp only at h1 ⊢
    have H1 := Lib.hid h1
    clear h1
    go_enter Try.func16, Try.ntmps16
    go_wp2_with fail
    refine (H1.out _).mono ?_
    rintro e w1 ⟨rfl, hb⟩
    have HB1 := Lib.hid (belA (Below.refl _ _) hb)
    clear hb
    go_wp2_with fail
    refine (alive_any _).mono ?_
    rintro e w2 ⟨rfl, hb⟩
    have HB2 := Lib.hid (HB1.out.trans (hb.mono HB1.out.size))
    clear hb HB1
    go_wp2_with fail
    go_ret
    exact ⟨rfl, HB2.out⟩
end Go.Proofs.Ytgpifbdjcoiilaa
