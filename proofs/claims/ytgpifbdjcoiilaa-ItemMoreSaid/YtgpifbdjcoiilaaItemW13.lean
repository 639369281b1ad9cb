/-
  WALK: ItemWrites.
-/
import Derived.Test.YtgpifbdjcoiilaaItemW12
import Derived.Test.YtgpifbdjcoiilaaItemArgs
namespace Go.Proofs.Ytgpifbdjcoiilaa
open Go.RowKit

theorem empB (d : ByteArray) : (⟨#[]⟩ : ByteArray) ++ d = d := by
  apply ByteArray.ext
  simp [ByteArray.data_append]
/-- The bytes of an item that may be. -/
def bytesI (i : It) : ByteArray :=
  if i.kind = 1 then digS (1 : Int).toNat ++ (digS i.ek.size ++ i.ek) ++ digS i.ea.toNat ++ digS (zz i.ev)
  else if i.kind = 2 then digS (2 : Int).toNat ++ digS i.ma.toNat
  else if i.kind = 3 then digS (3 : Int).toNat
  else if i.kind = 4 then digS (4 : Int).toNat ++ digS i.n.toNat
  else digS (5 : Int).toNat ++ (digS i.rk.size ++ i.rk) ++ digS i.lo.toNat ++ digS i.hi.toNat ++ digS i.rn.toNat ++ digS (zz i.rv)
theorem right_bare {i : It} (h : rightI i = true) : bareB i = true := by
  unfold rightI at h
  simp only [Bool.and_eq_true] at h
  exact h.1
theorem right_kind {i : It} (h : rightI i = true) : i.kind = 1 ∨ i.kind = 2 ∨ i.kind = 3 ∨ i.kind = 4 ∨ i.kind = 5 := by
  have hb := right_bare h
  unfold bareB at hb
  by_cases h1 : i.kind = 1
  · exact .inl h1
  by_cases h2 : i.kind = 2
  · exact .inr (.inl h2)
  by_cases h3 : i.kind = 3
  · exact .inr (.inr (.inl h3))
  by_cases h4 : i.kind = 4
  · exact .inr (.inr (.inr (.inl h4)))
  by_cases h5 : i.kind = 5
  · exact .inr (.inr (.inr (.inr h5)))
  simp [h1, h2, h3, h4, h5] at hb
theorem ev_facts {k : ByteArray} {a : Int} (h : evB k a = true) : k.size ≤ 16 ∧ 0 ≤ a ∧ a ≤ 1099511627776 := by
  unfold evB keyB at h
  simp at h
  omega
theorem res_facts {lo hi n : Int} {k : ByteArray} (h : resB lo hi k n = true) : k.size ≤ 16 ∧ 0 ≤ lo ∧ lo ≤ 1099511627776 ∧ 0 ≤ hi ∧ hi ≤ 1099511627776 ∧ 0 ≤ n ∧ n ≤ 1099511627776 := by
  unfold resB keyB at h
  simp at h
  omega
theorem d10i {a : Int} (h : a ≤ 1099511627776) : (digS a.toNat).size ≤ 10 := dig10 (by omega)
set_option maxRecDepth 100000 in
theorem put_any (i : It) (wf : i.Wf) (w : World) (hR : rightI i = true) :
    Calls Try.prog 44 #[itV i] w fun e w' => e = .returned (.tuple #[.string (bytesI i), .int .i64 0]) ∧ Below w.heap.size w w' := by
  have hk := right_kind hR
  have hB := right_bare hR
  obtain ⟨kind, ek, ea, ev, ma, n, lo, hi, rk, rn, rv⟩ := i
  obtain ⟨-, -, -, we, -, -, -, -, -, -, wr⟩ := wf
  simp only at hk we wr
  unfold wfL at we wr
  have h1 : (digS (1 : Int).toNat).size ≤ 10 := d10i (by decide)
  have h2 : (digS (2 : Int).toNat).size ≤ 10 := d10i (by decide)
  have h4 : (digS (4 : Int).toNat).size ≤ 10 := d10i (by decide)
  have h5 : (digS (5 : Int).toNat).size ≤ 10 := d10i (by decide)
  rcases hk with rfl | rfl | rfl | rfl | rfl
  · obtain ⟨e1, e2, e3⟩ := ev_facts (show evB ek ea = true from hB)
    have z1 := dig10 (n := ek.size) (by omega)
    have z2 := d10i e3
    have z3 := dig10 (zz_lt we.1 we.2)
    rw [show bytesI ⟨1, ek, ea, ev, ma, n, lo, hi, rk, rn, rv⟩ = digS (1 : Int).toNat ++ (digS ek.size ++ ek) ++ digS ea.toNat ++ digS (zz ev) from rfl]
    exact put_item1 1 ek ea ev ma n lo hi rk rn rv w rfl hR _ (empB _) (by omega) _ rfl (by simp only [ByteArray.size_append]; omega) e1 _ rfl (by simp only [ByteArray.size_append]; omega) e2 e3 _ rfl (by simp only [ByteArray.size_append]; omega) we.1 we.2
  · have hB' : (decide (0 ≤ ma) && decide (ma ≤ 1099511627776)) = true := hB
    simp at hB'
    have z2 := d10i hB'.2
    rw [show bytesI ⟨2, ek, ea, ev, ma, n, lo, hi, rk, rn, rv⟩ = digS (2 : Int).toNat ++ digS ma.toNat from rfl]
    exact put_item2 2 ek ea ev ma n lo hi rk rn rv w rfl hR _ (empB _) (by omega) _ rfl (by simp only [ByteArray.size_append]; omega) hB'.1 hB'.2
  · rw [show bytesI ⟨3, ek, ea, ev, ma, n, lo, hi, rk, rn, rv⟩ = digS (3 : Int).toNat from rfl]
    exact put_item3 3 ek ea ev ma n lo hi rk rn rv w rfl hR _ (empB _) (by have := d10i (a := 3) (by decide); omega)
  · have hB' : (decide (1 ≤ n) && decide (n ≤ 1073741824)) = true := hB
    simp at hB'
    have z2 := d10i (a := n) (by omega)
    rw [show bytesI ⟨4, ek, ea, ev, ma, n, lo, hi, rk, rn, rv⟩ = digS (4 : Int).toNat ++ digS n.toNat from rfl]
    exact put_item4 4 ek ea ev ma n lo hi rk rn rv w rfl hR _ (empB _) (by omega) _ rfl (by simp only [ByteArray.size_append]; omega) (by omega) (by omega)
  · obtain ⟨e1, l0, l1, i0, i1, n0, n1⟩ := res_facts (show resB lo hi rk rn = true from hB)
    have z1 := dig10 (n := rk.size) (by omega)
    have z2 := d10i l1
    have z3 := d10i i1
    have z4 := d10i n1
    have z5 := dig10 (zz_lt wr.1 wr.2)
    rw [show bytesI ⟨5, ek, ea, ev, ma, n, lo, hi, rk, rn, rv⟩ = digS (5 : Int).toNat ++ (digS rk.size ++ rk) ++ digS lo.toNat ++ digS hi.toNat ++ digS rn.toNat ++ digS (zz rv) from rfl]
    exact put_item5 5 ek ea ev ma n lo hi rk rn rv w rfl hR _ (empB _) (by omega) _ rfl (by simp only [ByteArray.size_append]; omega) _ rfl (by simp only [ByteArray.size_append]; omega) _ rfl (by simp only [ByteArray.size_append]; omega) _ rfl (by simp only [ByteArray.size_append]; omega) _ rfl (by simp only [ByteArray.size_append]; omega) e1 l0 l1 i0 i1 n0 n1 wr.1 wr.2
theorem rbytes_any (i : It) (wf : i.Wf) (w : World) (hR : rightI i = true) :
    Calls Try.prog 52 #[itV i] w fun e w' => e = .returned (.string (bytesI i)) ∧ Below w.heap.size w w' := by
  have hk := right_kind hR
  have hB := right_bare hR
  obtain ⟨kind, ek, ea, ev, ma, n, lo, hi, rk, rn, rv⟩ := i
  obtain ⟨-, -, -, we, -, -, -, -, -, -, wr⟩ := wf
  simp only at hk we wr
  unfold wfL at we wr
  rcases hk with rfl | rfl | rfl | rfl | rfl
  · obtain ⟨e1, e2, e3⟩ := ev_facts (show evB ek ea = true from hB)
    exact rbytes1 1 ek ea ev ma n lo hi rk rn rv w rfl _ rfl _ rfl e1 _ rfl e2 e3 _ rfl we.1 we.2
  · have hB' : (decide (0 ≤ ma) && decide (ma ≤ 1099511627776)) = true := hB
    simp at hB'
    exact rbytes2 2 ek ea ev ma n lo hi rk rn rv w rfl _ rfl _ rfl hB'.1 hB'.2
  · exact rbytes3 3 ek ea ev ma n lo hi rk rn rv w rfl _ rfl
  · have hB' : (decide (1 ≤ n) && decide (n ≤ 1073741824)) = true := hB
    simp at hB'
    exact rbytes4 4 ek ea ev ma n lo hi rk rn rv w rfl _ rfl _ rfl (by omega) (by omega)
  · obtain ⟨e1, l0, l1, i0, i1, n0, n1⟩ := res_facts (show resB lo hi rk rn = true from hB)
    exact rbytes5 5 ek ea ev ma n lo hi rk rn rv w rfl _ rfl _ rfl e1 _ rfl l0 l1 _ rfl i0 i1 _ rfl n0 n1 _ rfl wr.1 wr.2
end Go.Proofs.Ytgpifbdjcoiilaa
