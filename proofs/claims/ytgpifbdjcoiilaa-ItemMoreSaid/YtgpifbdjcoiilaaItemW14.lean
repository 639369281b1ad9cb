/-
  WALK: ItemWrites.
-/
import Derived.Test.YtgpifbdjcoiilaaItemW13
namespace Go.Proofs.Ytgpifbdjcoiilaa
open Go.RowKit

set_option maxHeartbeats 2000000 in
set_option maxRecDepth 100000 in
theorem writes_item (i : It) (wf : i.Wf) (w : World) :
    Calls Try.prog 20 #[itV i] w fun e w' => e = .returned (.bool true) ∧ Below w.heap.size w w' := by
  cases hR : rightI i with
  | true =>
    have h1 := fun W => put_any i wf W hR
    have h2 := fun W => rright_any i W true hR
    have h3 := fun W => rbytes_any i wf W hR
    obtain ⟨B, hB⟩ : ∃ B, bytesI i = B := ⟨_, rfl⟩
    rw [hB] at h1 h3
    clear hB hR wf
    obtain ⟨kind, ek, ea, ev, ma, n, lo, hi, rk, rn, rv⟩ := i
    unfold itV at h1 h2 h3 ⊢
    simp only at h1 h2 h3 ⊢
    have H1 := Lib.hid h1
    have H2 := Lib.hid h2
    have H3 := Lib.hid h3
    clear h1 h2 h3
    go_enter Try.func20, Try.ntmps20
    go_wp2_with fail
    refine (H1.out _).mono ?_
    rintro e w1 ⟨rfl, hb⟩
    have HK1 := Lib.hid ((hb.block w.heap.size (by simp)).trans (heap_alloc_new w _))
    have HB1 := Lib.hid ((bel_alloc (Below.refl _ _) _).trans (hb.mono (bel_alloc (Below.refl _ w) _).size))
    clear hb
    obtain ⟨c0, c1, c2, c3, c4, c5, c6, c7, c8, c9, c10⟩ := eleven HK1.out
    go_wp2_with fail
    refine (H2.out _).mono ?_
    rintro e w2 ⟨rfl, hb⟩
    have HK2 := Lib.hid ((hb.block w.heap.size (hlt HK1.out)).trans HK1.out)
    have HB2 := Lib.hid (HB1.out.trans (hb.mono HB1.out.size))
    clear hb c0 c1 c2 c3 c4 c5 c6 c7 c8 c9 c10 HK1 HB1
    obtain ⟨c0, c1, c2, c3, c4, c5, c6, c7, c8, c9, c10⟩ := eleven HK2.out
    go_wp2_with fail
    refine (H3.out _).mono ?_
    rintro e w3 ⟨rfl, hb⟩
    have HB3 := Lib.hid (HB2.out.trans (hb.mono HB2.out.size))
    clear hb c0 c1 c2 c3 c4 c5 c6 c7 c8 c9 c10 HK2 HB2
    go_wp2_with fail
    go_ret
    exact ⟨rfl, HB3.out⟩
  | false =>
    have h1 := fun W => put_item_no i W hR
    have h2 := fun W => rright_any i W false hR
    clear hR wf
    obtain ⟨kind, ek, ea, ev, ma, n, lo, hi, rk, rn, rv⟩ := i
    unfold itV at h1 h2 ⊢
    simp only at h1 h2 ⊢
    have H1 := Lib.hid h1
    have H2 := Lib.hid h2
    clear h1 h2
    go_enter Try.func20, Try.ntmps20
    go_wp2_with fail
    refine (H1.out _).mono ?_
    rintro e w1 ⟨rfl, hb⟩
    have HK1 := Lib.hid ((hb.block w.heap.size (by simp)).trans (heap_alloc_new w _))
    have HB1 := Lib.hid ((bel_alloc (Below.refl _ _) _).trans (hb.mono (bel_alloc (Below.refl _ w) _).size))
    clear hb
    obtain ⟨c0, c1, c2, c3, c4, c5, c6, c7, c8, c9, c10⟩ := eleven HK1.out
    go_wp2_with fail
    refine (H2.out _).mono ?_
    rintro e w2 ⟨rfl, hb⟩
    have HB2 := Lib.hid (HB1.out.trans (hb.mono HB1.out.size))
    clear hb c0 c1 c2 c3 c4 c5 c6 c7 c8 c9 c10 HK1 HB1
    go_wp2_with fail
    refine (alive_any _).mono ?_
    rintro e w3 ⟨rfl, hb⟩
    have HB3 := Lib.hid (HB2.out.trans (hb.mono HB2.out.size))
    clear hb
    go_wp2_with fail
    go_ret
    exact ⟨rfl, HB3.out⟩
end Go.Proofs.Ytgpifbdjcoiilaa
