/-
  WALKS of the laws of layer 4: ItemReads, ItemBack, ItemOnce, ItemMore.
-/
import Derived.Test.YtgpifbdjcoiilaaItemW24
import Derived.Test.YtgpifbdjcoiilaaItemW14
import Derived.Outline
namespace Go.Proofs.Ytgpifbdjcoiilaa
open Go.RowKit

theorem sameI_refl (i : It) : sameI i i = true := by simp [sameI]
theorem bytesI_size (i : It) (wf : i.Wf) (hR : rightI i = true) : 1 ≤ (bytesI i).size ∧ (bytesI i).size ≤ 100 := by
  have hk := right_kind hR
  have hB := right_bare hR
  obtain ⟨kind, ek, ea, ev, ma, n, lo, hi, rk, rn, rv⟩ := i
  obtain ⟨-, -, -, we, -, -, -, -, -, -, wr⟩ := wf
  simp only at hk we wr
  unfold wfL at we wr
  rcases hk with rfl | rfl | rfl | rfl | rfl
  · obtain ⟨e1, e2, e3⟩ := ev_facts (show evB ek ea = true from hB)
    have z0 := d10i (a := 1) (by decide)
    have z1 := dig10 (n := ek.size) (by omega)
    have z2 := d10i e3
    have z3 := dig10 (zz_lt we.1 we.2)
    have p := dig_pos (1 : Int).toNat
    rw [show bytesI ⟨1, ek, ea, ev, ma, n, lo, hi, rk, rn, rv⟩ = digS (1 : Int).toNat ++ (digS ek.size ++ ek) ++ digS ea.toNat ++ digS (zz ev) from rfl]
    simp only [ByteArray.size_append]; omega
  · have hB' : (decide (0 ≤ ma) && decide (ma ≤ 1099511627776)) = true := hB
    simp at hB'
    have z0 := d10i (a := 2) (by decide)
    have z2 := d10i hB'.2
    have p := dig_pos (2 : Int).toNat
    rw [show bytesI ⟨2, ek, ea, ev, ma, n, lo, hi, rk, rn, rv⟩ = digS (2 : Int).toNat ++ digS ma.toNat from rfl]
    simp only [ByteArray.size_append]; omega
  · have z0 := d10i (a := 3) (by decide)
    have p := dig_pos (3 : Int).toNat
    rw [show bytesI ⟨3, ek, ea, ev, ma, n, lo, hi, rk, rn, rv⟩ = digS (3 : Int).toNat from rfl]
    omega
  · have hB' : (decide (1 ≤ n) && decide (n ≤ 1073741824)) = true := hB
    simp at hB'
    have z0 := d10i (a := 4) (by decide)
    have z2 := d10i (a := n) (by omega)
    have p := dig_pos (4 : Int).toNat
    rw [show bytesI ⟨4, ek, ea, ev, ma, n, lo, hi, rk, rn, rv⟩ = digS (4 : Int).toNat ++ digS n.toNat from rfl]
    simp only [ByteArray.size_append]; omega
  · obtain ⟨e1, l0, l1, i0, i1, n0, n1⟩ := res_facts (show resB lo hi rk rn = true from hB)
    have z0 := d10i (a := 5) (by decide)
    have z1 := dig10 (n := rk.size) (by omega)
    have z2 := d10i l1
    have z3 := d10i i1
    have z4 := d10i n1
    have z5 := dig10 (zz_lt wr.1 wr.2)
    have p := dig_pos (5 : Int).toNat
    rw [show bytesI ⟨5, ek, ea, ev, ma, n, lo, hi, rk, rn, rv⟩ = digS (5 : Int).toNat ++ (digS rk.size ++ rk) ++ digS lo.toNat ++ digS hi.toNat ++ digS rn.toNat ++ digS (zz rv) from rfl]
    simp only [ByteArray.size_append]; omega
theorem belA {w w1 w2 : World} (h : Below w.heap.size w w1) {o : Obj} (hb : Below (w1.alloc o).heap.size (w1.alloc o) w2) : Below w.heap.size w w2 := (bel_alloc h o).trans (hb.mono (bel_alloc h o).size)
theorem newA {w1 w2 : World} {o : Obj} (hb : Below (w1.alloc o).heap.size (w1.alloc o) w2) : w2.heap[w1.heap.size]? = some o := (hb.block w1.heap.size (by simp)).trans (heap_alloc_new w1 _)
theorem ne_emp {B : ByteArray} (h : 1 ≤ B.size) : B.toList.isEmpty = false := by
  rw [toListL]
  cases hh : B.data.toList with
  | nil => have := congrArg List.length hh; rw [Array.length_toList] at this; simp at this; rw [ByteArray.size] at h; rw [this] at h; simp at h
  | cons a l => rfl

set_option maxHeartbeats 2000000 in
set_option maxRecDepth 100000 in
theorem reads_item (s : ByteArray) (w : World) (hs : s.size ≤ 140737488355328) :
    Calls Try.prog 18 #[.string s] w fun e w' => e = .returned (.bool true) ∧ Below w.heap.size w w' := by
  obtain ⟨⟨i, e0⟩, h⟩ : ∃ r, getP s = r := ⟨_, rfl⟩
  have h1 := fun W => getI_any s W hs i e0 h
  have h2 := fun W => rgetI_any s W hs i e0 h
  have hE := fun W => eq57 W i i
  simp only [sameI_refl] at hE
  clear h hs
  obtain ⟨kind, ek, ea, ev, ma, n, lo, hi, rk, rn, rv⟩ := i
  unfold itV at h1 h2 hE
  simp only at h1 h2 hE
  have H1 := Lib.hid h1
  have H2 := Lib.hid h2
  clear h1 h2
  go_enter Try.func18, Try.ntmps18
  go_wp2_with fail
  refine (H1.out _).mono ?_
  rintro e w1 ⟨rfl, hb⟩
  have HB1 := Lib.hid hb
  clear hb
  go_wp2_with fail
  refine (H2.out _).mono ?_
  rintro e w2 ⟨rfl, hb⟩
  have HK1 := Lib.hid (newA hb)
  have HB2 := Lib.hid (belA HB1.out hb)
  clear hb HB1
  go_wp2_with fail
  refine (alive_any _).mono ?_
  rintro e w3 ⟨rfl, hb⟩
  have HK2 := Lib.hid (newA hb)
  have HK3 := Lib.hid ((hb.block w1.heap.size (by have := hlt HK1.out; simp; omega)).trans ((Below.heap_alloc w2 _ _ (hlt HK1.out)).trans HK1.out))
  have HB3 := Lib.hid (belA HB2.out hb)
  clear hb HK1 HB2
  obtain ⟨c0, c1, c2, c3, c4, c5, c6, c7, c8, c9, c10⟩ := eleven HK2.out
  obtain ⟨d0, d1, d2, d3, d4, d5, d6, d7, d8, d9, d10⟩ := eleven HK3.out
  go_wp2_with fail
  go_ret
  exact ⟨rfl, HB3.out⟩
set_option maxHeartbeats 2000000 in
set_option maxRecDepth 100000 in
theorem back_item (i : It) (wf : i.Wf) (w : World) :
    Calls Try.prog 15 #[itV i] w fun e w' => e = .returned (.bool true) ∧ Below w.heap.size w w' := by
  cases hR : rightI i with
  | true =>
    have h1 := fun W => put_any i wf W hR
    obtain ⟨p1, p2⟩ := bytesI_size i wf hR
    have hG := get_back i wf hR ⟨#[]⟩
    rw [app_emp] at hG
    have h2 := fun W => getI_any (bytesI i) W (by omega) i 0 hG
    have hE := fun W => eq57 W i i
    simp only [sameI_refl] at hE
    obtain ⟨B, hB⟩ : ∃ B, bytesI i = B := ⟨_, rfl⟩
    rw [hB] at h1 h2 p1
    have hne := ne_emp p1
    clear hB hR wf p1 p2 hG
    obtain ⟨kind, ek, ea, ev, ma, n, lo, hi, rk, rn, rv⟩ := i
    unfold itV at h1 h2 hE ⊢
    simp only at h1 h2 hE ⊢
    have H1 := Lib.hid h1
    have H2 := Lib.hid h2
    clear h1 h2
    go_enter Try.func15, Try.ntmps15
    go_wp2_with fail
    refine (H1.out _).mono ?_
    rintro e w1 ⟨rfl, hb⟩
    have HK1 := Lib.hid (newA hb)
    have HB1 := Lib.hid (belA (Below.refl _ _) hb)
    clear hb
    go_wp2_with fail
    refine (H2.out _).mono ?_
    rintro e w2 ⟨rfl, hb⟩
    have HK2 := Lib.hid ((hb.block w.heap.size (hlt HK1.out)).trans HK1.out)
    have HB2 := Lib.hid (HB1.out.trans (hb.mono HB1.out.size))
    clear hb HK1 HB1
    obtain ⟨c0, c1, c2, c3, c4, c5, c6, c7, c8, c9, c10⟩ := eleven HK2.out
    have hl := hlt HK2.out
    go_wp2_with fail
    go_ret
    exact ⟨rfl, bel_alloc HB2.out _⟩
  | false =>
    have h1 := fun W => put_item_no i W hR
    have h2 := fun W => right_any i W false hR
    clear hR wf
    obtain ⟨kind, ek, ea, ev, ma, n, lo, hi, rk, rn, rv⟩ := i
    unfold itV at h1 h2 ⊢
    simp only at h1 h2 ⊢
    have H1 := Lib.hid h1
    have H2 := Lib.hid h2
    clear h1 h2
    go_enter Try.func15, Try.ntmps15
    go_wp2_with fail
    refine (H1.out _).mono ?_
    rintro e w1 ⟨rfl, hb⟩
    have HK1 := Lib.hid (newA hb)
    have HB1 := Lib.hid (belA (Below.refl _ _) hb)
    clear hb
    go_wp2_with fail
    refine (alive_any _).mono ?_
    rintro e w2 ⟨rfl, hb⟩
    have HK2 := Lib.hid ((hb.block w.heap.size (hlt HK1.out)).trans HK1.out)
    have HB2 := Lib.hid (HB1.out.trans (hb.mono HB1.out.size))
    clear hb HK1 HB1
    obtain ⟨c0, c1, c2, c3, c4, c5, c6, c7, c8, c9, c10⟩ := eleven HK2.out
    go_wp2_with fail
    refine (H2.out _).mono ?_
    rintro e w3 ⟨rfl, hb⟩
    have HB3 := Lib.hid (HB2.out.trans (hb.mono HB2.out.size))
    clear hb HB2 HK2
    go_wp2_with fail
    go_ret
    exact ⟨rfl, HB3.out⟩
set_option maxHeartbeats 2000000 in
set_option maxRecDepth 100000 in
theorem once_item (s : ByteArray) (w : World) (hs : s.size ≤ 140737488355328) :
    Calls Try.prog 17 #[.string s] w fun e w' => e = .returned (.bool true) ∧ Below w.heap.size w w' := by
  obtain ⟨⟨i, e0⟩, h⟩ : ∃ r, getP s = r := ⟨_, rfl⟩
  have h1 := fun W => getI_any s W hs i e0 h
  by_cases he : e0 = 0
  · subst he
    obtain ⟨hR, hB, wf⟩ := get_once h
    have h2 := fun W => put_any i wf W hR
    have h3 := fun W => right_any i W true hR
    rw [hB] at h2
    clear h hs hB wf hR
    obtain ⟨kind, ek, ea, ev, ma, n, lo, hi, rk, rn, rv⟩ := i
    unfold itV at h1 h2 h3
    simp only at h1 h2 h3
    have H1 := Lib.hid h1
    have H2 := Lib.hid h2
    have H3 := Lib.hid h3
    clear h1 h2 h3
    go_enter Try.func17, Try.ntmps17
    go_wp2_with fail
    refine (H1.out _).mono ?_
    rintro e w1 ⟨rfl, hb⟩
    have HB1 := Lib.hid hb
    clear hb
    go_wp2_with fail
    refine (H2.out _).mono ?_
    rintro e w2 ⟨rfl, hb⟩
    have HK2 := Lib.hid (newA hb)
    have HB2 := Lib.hid (belA HB1.out hb)
    clear hb HB1
    go_wp2_with fail
    refine (alive_any _).mono ?_
    rintro e w3 ⟨rfl, hb⟩
    have HK3 := Lib.hid ((hb.block w1.heap.size (hlt HK2.out)).trans HK2.out)
    have HB3 := Lib.hid (HB2.out.trans (hb.mono HB2.out.size))
    clear hb HK2 HB2
    obtain ⟨c0, c1, c2, c3, c4, c5, c6, c7, c8, c9, c10⟩ := eleven HK3.out
    go_wp2_with fail
    refine (H3.out _).mono ?_
    rintro e w4 ⟨rfl, hb⟩
    have HB4 := Lib.hid (HB3.out.trans (hb.mono HB3.out.size))
    clear hb HB3 HK3
    go_wp2_with fail
    go_ret
    exact ⟨rfl, HB4.out⟩
  · obtain rfl := get_no h he
    have hb2 : (e0 != 0) = true := by simpa using he
    have hE := fun W => eq57 W itZ itZ
    simp only [sameI_refl] at hE
    clear h hs he
    unfold itV itZ at h1 hE
    simp only at h1 hE
    have H1 := Lib.hid h1
    clear h1
    go_enter Try.func17, Try.ntmps17
    go_wp2_with fail
    refine (H1.out _).mono ?_
    rintro e w1 ⟨rfl, hb⟩
    have HB1 := Lib.hid hb
    clear hb
    go_wp2_with fail
    refine (alive_any _).mono ?_
    rintro e w3 ⟨rfl, hb⟩
    have HK2 := Lib.hid (newA hb)
    have HB3 := Lib.hid (belA HB1.out hb)
    clear hb HB1
    obtain ⟨c0, c1, c2, c3, c4, c5, c6, c7, c8, c9, c10⟩ := eleven HK2.out
    go_wp2_with fail
    go_ret
    exact ⟨rfl, HB3.out⟩
end Go.Proofs.Ytgpifbdjcoiilaa
