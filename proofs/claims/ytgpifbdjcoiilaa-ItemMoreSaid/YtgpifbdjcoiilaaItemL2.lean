/-
  PLAIN: Get, kind by kind; what is put is got again.
-/
import Derived.Test.YtgpifbdjcoiilaaItemL1
import Derived.Test.YtgpifbdjcoiilaaItemW20
namespace Go.Proofs.Ytgpifbdjcoiilaa
open Go.RowKit

theorem loopL (b : ByteArray) : ∀ (n i : Nat) (r : List UInt8), b.size - i = n → ByteArray.toList.loop b i r = r.reverse ++ b.data.toList.drop i := by
  intro n
  induction n with
  | zero =>
    intro i r h
    unfold ByteArray.toList.loop
    rw [if_neg (by omega), List.drop_eq_nil_of_le (by rw [Array.length_toList]; show b.size ≤ i; omega)]
    simp
  | succ n ih =>
    intro i r h
    unfold ByteArray.toList.loop
    rw [if_pos (by omega), ih (i + 1) _ (by omega)]
    have hi : i < b.data.toList.length := by rw [Array.length_toList]; show i < b.size; omega
    rw [List.drop_eq_getElem_cons hi]
    have : b.get! i = b.data.toList[i] := by
      rw [ByteArray.get!]
      simp at hi
      simp [getElem!_pos, hi]
    simp [this]
theorem toListL (b : ByteArray) : b.toList = b.data.toList := by
  unfold ByteArray.toList
  rw [loopL b _ 0 [] rfl]; simp
theorem eqLL {a b : ByteArray} (h : a.toList = b.toList) : a = b := by
  rw [toListL, toListL] at h
  exact bytes_ext h

theorem getP_0 {s : ByteArray} {a b : Int} (h0 : numP s 0 0 = (0, a, b)) (hb : b ≠ 0) : getP s = (itZ, b) := by
  simp [getP, fillP, h0, hb]
theorem getP_6 {s : ByteArray} {k a : Int} (h0 : numP s 0 0 = (k, a, 0)) (hk : k < 1 ∨ 5 < k) : getP s = (itZ, 40) := by
  simp [getP, h0, hk]
theorem getP_1 {s ek : ByteArray} {a1 a2 a3 a4 b2 b3 b4 ea ev : Int} (h0 : numP s 0 0 = (1, a1, 0)) (h1 : txtP s a1 0 = (ek, a2, b2)) (h2 : numP s a2 b2 = (ea, a3, b3)) (h3 : sgnP s a3 b3 = (ev, a4, b4)) :
    getP s = fin s { itZ with kind := 1, ek := ek, ea := ea, ev := ev } a4 b4 := by
  simp [getP, fillP, h0, h1, h2, h3, fin]
theorem getP_2 {s : ByteArray} {a1 a2 b2 ma : Int} (h0 : numP s 0 0 = (2, a1, 0)) (h1 : numP s a1 0 = (ma, a2, b2)) :
    getP s = fin s { itZ with kind := 2, ma := ma } a2 b2 := by
  simp [getP, fillP, h0, h1, fin]
theorem getP_3 {s : ByteArray} {a1 : Int} (h0 : numP s 0 0 = (3, a1, 0)) : getP s = fin s { itZ with kind := 3 } a1 0 := by
  simp [getP, fillP, h0, fin]
theorem getP_4 {s : ByteArray} {a1 a2 b2 n : Int} (h0 : numP s 0 0 = (4, a1, 0)) (h1 : numP s a1 0 = (n, a2, b2)) :
    getP s = fin s { itZ with kind := 4, n := n } a2 b2 := by
  simp [getP, fillP, h0, h1, fin]
theorem getP_5 {s rk : ByteArray} {a1 a2 a3 a4 a5 a6 b2 b3 b4 b5 b6 lo hi rn rv : Int} (h0 : numP s 0 0 = (5, a1, 0)) (h1 : txtP s a1 0 = (rk, a2, b2)) (h2 : numP s a2 b2 = (lo, a3, b3)) (h3 : numP s a3 b3 = (hi, a4, b4)) (h4 : numP s a4 b4 = (rn, a5, b5)) (h5 : sgnP s a5 b5 = (rv, a6, b6)) :
    getP s = fin s { itZ with kind := 5, lo := lo, hi := hi, rk := rk, rn := rn, rv := rv } a6 b6 := by
  simp [getP, fillP, h0, h1, h2, h3, h4, h5, fin]
theorem eqNil {a : ByteArray} (h : a.toList = []) : a = ⟨#[]⟩ := eqLL (h.trans (by rw [toListL]))
theorem right_1 {ek : ByteArray} {ea ev ma n lo hi : Int} {rk : ByteArray} {rn rv : Int} (h : rightI ⟨1, ek, ea, ev, ma, n, lo, hi, rk, rn, rv⟩ = true) : (⟨1, ek, ea, ev, ma, n, lo, hi, rk, rn, rv⟩ : It) = { itZ with kind := 1, ek := ek, ea := ea, ev := ev } := by
  simp [rightI, sameI, bareI, itZ] at h
  obtain ⟨-, rfl, rfl, ⟨rfl, rfl⟩, hk, rfl, rfl⟩ := h
  rw [eqNil hk]; rfl
theorem right_2 {ek : ByteArray} {ea ev ma n lo hi : Int} {rk : ByteArray} {rn rv : Int} (h : rightI ⟨2, ek, ea, ev, ma, n, lo, hi, rk, rn, rv⟩ = true) : (⟨2, ek, ea, ev, ma, n, lo, hi, rk, rn, rv⟩ : It) = { itZ with kind := 2, ma := ma } := by
  simp [rightI, sameI, bareI, itZ] at h
  obtain ⟨-, ⟨he, rfl, rfl⟩, rfl, ⟨rfl, rfl⟩, hk, rfl, rfl⟩ := h
  rw [eqNil hk, eqNil he]; rfl
theorem right_3 {ek : ByteArray} {ea ev ma n lo hi : Int} {rk : ByteArray} {rn rv : Int} (h : rightI ⟨3, ek, ea, ev, ma, n, lo, hi, rk, rn, rv⟩ = true) : (⟨3, ek, ea, ev, ma, n, lo, hi, rk, rn, rv⟩ : It) = { itZ with kind := 3 } := by
  simp [rightI, sameI, bareI, itZ] at h
  obtain ⟨-, ⟨he, rfl, rfl⟩, rfl, rfl, ⟨rfl, rfl⟩, hk, rfl, rfl⟩ := h
  rw [eqNil hk, eqNil he]; rfl
theorem right_4 {ek : ByteArray} {ea ev ma n lo hi : Int} {rk : ByteArray} {rn rv : Int} (h : rightI ⟨4, ek, ea, ev, ma, n, lo, hi, rk, rn, rv⟩ = true) : (⟨4, ek, ea, ev, ma, n, lo, hi, rk, rn, rv⟩ : It) = { itZ with kind := 4, n := n } := by
  simp [rightI, sameI, bareI, itZ] at h
  obtain ⟨-, ⟨he, rfl, rfl⟩, rfl, ⟨rfl, rfl⟩, hk, rfl, rfl⟩ := h
  rw [eqNil hk, eqNil he]; rfl
theorem right_5 {ek : ByteArray} {ea ev ma n lo hi : Int} {rk : ByteArray} {rn rv : Int} (h : rightI ⟨5, ek, ea, ev, ma, n, lo, hi, rk, rn, rv⟩ = true) : (⟨5, ek, ea, ev, ma, n, lo, hi, rk, rn, rv⟩ : It) = { itZ with kind := 5, lo := lo, hi := hi, rk := rk, rn := rn, rv := rv } := by
  simp [rightI, sameI, bareI, itZ] at h
  obtain ⟨-, ⟨he, rfl, rfl⟩, rfl, rfl⟩ := h
  rw [eqNil he]; rfl
theorem fin_yes {s A R : ByteArray} {i : It} (e : s = A ++ R) (hR : rightI i = true) : fin s i A.size 0 = if 0 < R.size then (itZ, 21) else (i, 0) := by
  unfold fin
  rw [if_neg (by simp), hR]
  have hsz : s.size = A.size + R.size := by rw [e, ByteArray.size_append]
  by_cases h : 0 < R.size
  · rw [if_pos (by omega), if_pos h]
  · rw [if_neg (by omega), if_neg h, if_neg (by simp)]
theorem sz0 : (((⟨#[]⟩ : ByteArray).size : Nat) : Int) = 0 := rfl
/-- What is put is got again; with bytes behind it, it is of another form. -/
theorem get_back (i : It) (wf : i.Wf) (hR : rightI i = true) (R : ByteArray) : getP (bytesI i ++ R) = if 0 < R.size then (itZ, 21) else (i, 0) := by
  have hk := right_kind hR
  have hB := right_bare hR
  obtain ⟨kind, ek, ea, ev, ma, n, lo, hi, rk, rn, rv⟩ := i
  obtain ⟨-, -, -, we, -, -, -, -, -, -, wr⟩ := wf
  simp only at hk we wr
  unfold wfL at we wr
  obtain ⟨s, hs⟩ : ∃ s, bytesI ⟨kind, ek, ea, ev, ma, n, lo, hi, rk, rn, rv⟩ ++ R = s := ⟨_, rfl⟩
  rw [hs]
  rcases hk with rfl | rfl | rfl | rfl | rfl
  · obtain ⟨f1, f2, f3⟩ := ev_facts (show evB ek ea = true from hB)
    have e0 : s = ⟨#[]⟩ ++ (digS (1 : Int).toNat ++ ((digS ek.size ++ ek) ++ (digS ea.toNat ++ (digS (zz ev) ++ R)))) := by
      rw [emp_app, ← hs, show bytesI ⟨1, ek, ea, ev, ma, n, lo, hi, rk, rn, rv⟩ = digS (1 : Int).toNat ++ (digS ek.size ++ ek) ++ digS ea.toNat ++ digS (zz ev) from rfl]
      simp only [app_assoc]
    obtain ⟨h0, e1⟩ := numP_at e0 (by decide) (by decide)
    obtain ⟨h1, e2⟩ := txtP_at e1 (by omega)
    obtain ⟨h2, e3⟩ := numP_at e2 f2 (by omega)
    obtain ⟨h3, e4⟩ := sgnP_at e3 we.1 we.2
    rw [sz0] at h0
    rw [getP_1 h0 h1 h2 h3, ← right_1 hR, fin_yes e4 hR]
  · have hB' : (decide (0 ≤ ma) && decide (ma ≤ 1099511627776)) = true := hB
    simp at hB'
    have e0 : s = ⟨#[]⟩ ++ (digS (2 : Int).toNat ++ (digS ma.toNat ++ R)) := by
      rw [emp_app, ← hs, show bytesI ⟨2, ek, ea, ev, ma, n, lo, hi, rk, rn, rv⟩ = digS (2 : Int).toNat ++ digS ma.toNat from rfl]
      simp only [app_assoc]
    obtain ⟨h0, e1⟩ := numP_at e0 (by decide) (by decide)
    obtain ⟨h1, e2⟩ := numP_at e1 hB'.1 (by omega)
    rw [sz0] at h0
    rw [getP_2 h0 h1, ← right_2 hR, fin_yes e2 hR]
  · have e0 : s = ⟨#[]⟩ ++ (digS (3 : Int).toNat ++ R) := by
      rw [emp_app, ← hs, show bytesI ⟨3, ek, ea, ev, ma, n, lo, hi, rk, rn, rv⟩ = digS (3 : Int).toNat from rfl]
    obtain ⟨h0, e1⟩ := numP_at e0 (by decide) (by decide)
    rw [sz0] at h0
    rw [getP_3 h0, ← right_3 hR, fin_yes e1 hR]
  · have hB' : (decide (1 ≤ n) && decide (n ≤ 1073741824)) = true := hB
    simp at hB'
    have e0 : s = ⟨#[]⟩ ++ (digS (4 : Int).toNat ++ (digS n.toNat ++ R)) := by
      rw [emp_app, ← hs, show bytesI ⟨4, ek, ea, ev, ma, n, lo, hi, rk, rn, rv⟩ = digS (4 : Int).toNat ++ digS n.toNat from rfl]
      simp only [app_assoc]
    obtain ⟨h0, e1⟩ := numP_at e0 (by decide) (by decide)
    obtain ⟨h1, e2⟩ := numP_at e1 (n := n) (by omega) (by omega)
    rw [sz0] at h0
    rw [getP_4 h0 h1, ← right_4 hR, fin_yes e2 hR]
  · obtain ⟨f1, l0, l1, i0, i1, n0, n1⟩ := res_facts (show resB lo hi rk rn = true from hB)
    have e0 : s = ⟨#[]⟩ ++ (digS (5 : Int).toNat ++ ((digS rk.size ++ rk) ++ (digS lo.toNat ++ (digS hi.toNat ++ (digS rn.toNat ++ (digS (zz rv) ++ R)))))) := by
      rw [emp_app, ← hs, show bytesI ⟨5, ek, ea, ev, ma, n, lo, hi, rk, rn, rv⟩ = digS (5 : Int).toNat ++ (digS rk.size ++ rk) ++ digS lo.toNat ++ digS hi.toNat ++ digS rn.toNat ++ digS (zz rv) from rfl]
      simp only [app_assoc]
    obtain ⟨h0, e1⟩ := numP_at e0 (by decide) (by decide)
    obtain ⟨h1, e2⟩ := txtP_at e1 (by omega)
    obtain ⟨h2, e3⟩ := numP_at e2 l0 (by omega)
    obtain ⟨h3, e4⟩ := numP_at e3 i0 (by omega)
    obtain ⟨h4, e5⟩ := numP_at e4 n0 (by omega)
    obtain ⟨h5, e6⟩ := sgnP_at e5 wr.1 wr.2
    rw [sz0] at h0
    rw [getP_5 h0 h1 h2 h3 h4 h5, ← right_5 hR, fin_yes e6 hR]
theorem dig_pos (n : Nat) : 1 ≤ (digS n).size := by rw [digS_size, dig_length]; omega
/-- An item's bytes less the last one end too early. -/
theorem get_cut (i : It) (wf : i.Wf) (hR : rightI i = true) : getP ((bytesI i).extract 0 ((bytesI i).size - 1)) = (itZ, 20) := by
  have hk := right_kind hR
  have hB := right_bare hR
  obtain ⟨kind, ek, ea, ev, ma, n, lo, hi, rk, rn, rv⟩ := i
  obtain ⟨-, -, -, we, -, -, -, -, -, -, wr⟩ := wf
  simp only at hk we wr
  unfold wfL at we wr
  have cut : ∀ (A : ByteArray) (m : Nat), (A ++ digS m).extract 0 ((A ++ digS m).size - 1) = A ++ (digS m).extract 0 ((digS m).size - 1) := by
    intro A m
    have := dig_pos m
    apply bytes_ext
    simp only [data_extract, data_app, ByteArray.size_append, List.drop_zero, Nat.sub_zero]
    rw [List.take_append, List.take_of_length_le (by rw [len_data]; omega), len_data, show A.size + (digS m).size - 1 - A.size = (digS m).size - 1 by omega]
  have lt : ∀ m, (digS m).size - 1 < (digS m).size := fun m => by have := dig_pos m; omega
  obtain ⟨s, hs⟩ : ∃ s, (bytesI ⟨kind, ek, ea, ev, ma, n, lo, hi, rk, rn, rv⟩).extract 0 ((bytesI ⟨kind, ek, ea, ev, ma, n, lo, hi, rk, rn, rv⟩).size - 1) = s := ⟨_, rfl⟩
  rw [hs]
  rcases hk with rfl | rfl | rfl | rfl | rfl
  · obtain ⟨f1, f2, f3⟩ := ev_facts (show evB ek ea = true from hB)
    rw [show bytesI ⟨1, ek, ea, ev, ma, n, lo, hi, rk, rn, rv⟩ = digS (1 : Int).toNat ++ (digS ek.size ++ ek) ++ digS ea.toNat ++ digS (zz ev) from rfl, cut] at hs
    have e0 : s = ⟨#[]⟩ ++ (digS (1 : Int).toNat ++ ((digS ek.size ++ ek) ++ (digS ea.toNat ++ (digS (zz ev)).extract 0 ((digS (zz ev)).size - 1)))) := by
      rw [emp_app, ← hs]
      simp only [app_assoc]
    obtain ⟨h0, e1⟩ := numP_at e0 (by decide) (by decide)
    obtain ⟨h1, e2⟩ := txtP_at e1 (by omega)
    obtain ⟨h2, e3⟩ := numP_at e2 f2 (by omega)
    have h3 := sgnP_cut e3 we.1 we.2 (lt _)
    rw [sz0] at h0
    rw [getP_1 h0 h1 h2 h3]; rfl
  · have hB' : (decide (0 ≤ ma) && decide (ma ≤ 1099511627776)) = true := hB
    simp at hB'
    rw [show bytesI ⟨2, ek, ea, ev, ma, n, lo, hi, rk, rn, rv⟩ = digS (2 : Int).toNat ++ digS ma.toNat from rfl, cut] at hs
    have e0 : s = ⟨#[]⟩ ++ (digS (2 : Int).toNat ++ (digS ma.toNat).extract 0 ((digS ma.toNat).size - 1)) := by rw [emp_app, ← hs]
    obtain ⟨h0, e1⟩ := numP_at e0 (by decide) (by decide)
    have h1 := numP_cut e1 hB'.1 (by omega) (lt _)
    rw [sz0] at h0
    rw [getP_2 h0 h1]; rfl
  · rw [show bytesI ⟨3, ek, ea, ev, ma, n, lo, hi, rk, rn, rv⟩ = ⟨#[]⟩ ++ digS (3 : Int).toNat from (emp_app _).symm, cut] at hs
    have h0 := numP_cut hs.symm (by decide) (by decide) (lt _)
    rw [sz0] at h0
    exact getP_0 h0 (by decide)
  · have hB' : (decide (1 ≤ n) && decide (n ≤ 1073741824)) = true := hB
    simp at hB'
    rw [show bytesI ⟨4, ek, ea, ev, ma, n, lo, hi, rk, rn, rv⟩ = digS (4 : Int).toNat ++ digS n.toNat from rfl, cut] at hs
    have e0 : s = ⟨#[]⟩ ++ (digS (4 : Int).toNat ++ (digS n.toNat).extract 0 ((digS n.toNat).size - 1)) := by rw [emp_app, ← hs]
    obtain ⟨h0, e1⟩ := numP_at e0 (by decide) (by decide)
    have h1 := numP_cut e1 (n := n) (by omega) (by omega) (lt _)
    rw [sz0] at h0
    rw [getP_4 h0 h1]; rfl
  · obtain ⟨f1, l0, l1, i0, i1, n0, n1⟩ := res_facts (show resB lo hi rk rn = true from hB)
    rw [show bytesI ⟨5, ek, ea, ev, ma, n, lo, hi, rk, rn, rv⟩ = digS (5 : Int).toNat ++ (digS rk.size ++ rk) ++ digS lo.toNat ++ digS hi.toNat ++ digS rn.toNat ++ digS (zz rv) from rfl, cut] at hs
    have e0 : s = ⟨#[]⟩ ++ (digS (5 : Int).toNat ++ ((digS rk.size ++ rk) ++ (digS lo.toNat ++ (digS hi.toNat ++ (digS rn.toNat ++ (digS (zz rv)).extract 0 ((digS (zz rv)).size - 1)))))) := by
      rw [emp_app, ← hs]
      simp only [app_assoc]
    obtain ⟨h0, e1⟩ := numP_at e0 (by decide) (by decide)
    obtain ⟨h1, e2⟩ := txtP_at e1 (by omega)
    obtain ⟨h2, e3⟩ := numP_at e2 l0 (by omega)
    obtain ⟨h3, e4⟩ := numP_at e3 i0 (by omega)
    obtain ⟨h4, e5⟩ := numP_at e4 n0 (by omega)
    have h5 := sgnP_cut e5 wr.1 wr.2 (lt _)
    rw [sz0] at h0
    rw [getP_5 h0 h1 h2 h3 h4 h5]; rfl
theorem fin_once {s : ByteArray} {i j : It} {a b : Int} (h : fin s i a b = (j, 0)) : b = 0 ∧ (s.size : Int) ≤ a ∧ rightI i = true ∧ j = i := by
  unfold fin at h
  by_cases hb : b = 0
  · rw [if_neg (by simpa using hb)] at h
    by_cases ha : a < (s.size : Int)
    · rw [if_pos ha] at h
      simp at h
    · rw [if_neg ha] at h
      cases hR : rightI i with
      | false => rw [hR] at h; simp at h
      | true => rw [hR] at h; simp at h; exact ⟨hb, by omega, rfl, h.symm⟩
  · rw [if_pos hb] at h
    simp only [Prod.mk.injEq] at h
    exact absurd h.2 hb
theorem fin_no {s : ByteArray} {i j : It} {a b e : Int} (h : fin s i a b = (j, e)) (he : e ≠ 0) : j = itZ := by
  unfold fin at h
  by_cases hb : b = 0
  · rw [if_neg (by simpa using hb)] at h
    by_cases ha : a < (s.size : Int)
    · rw [if_pos ha] at h
      simp only [Prod.mk.injEq] at h
      exact h.1.symm
    · rw [if_neg ha] at h
      cases hR : rightI i with
      | false => rw [hR] at h; simp at h; exact h.1.symm
      | true => rw [hR] at h; simp at h; exact absurd h.2.symm he
  · rw [if_pos hb] at h
    simp only [Prod.mk.injEq] at h
    exact h.1.symm
theorem numP_zero {s : ByteArray} {a k a' b' : Int} (h : numP s a 0 = (k, a', b')) (hb : b' ≠ 0) : k = 0 := by
  unfold numP at h
  rw [if_neg (by simp)] at h
  obtain ⟨⟨n, tt, er⟩, hr⟩ : ∃ r, getR s.data.toList a = r := ⟨_, rfl⟩
  rw [hr] at h
  simp only at h
  by_cases he : er = 0
  · rw [if_pos he] at h; simp only [Prod.mk.injEq] at h; exact absurd h.2.2.symm hb
  · rw [if_neg he] at h; simp only [Prod.mk.injEq] at h; exact h.1.symm
theorem get_no {s : ByteArray} {j : It} {e : Int} (h : getP s = (j, e)) (he : e ≠ 0) : j = itZ := by
  obtain ⟨⟨k, a, b⟩, h0⟩ : ∃ r, numP s 0 0 = r := ⟨_, rfl⟩
  by_cases hb : b = 0
  · subst hb
    by_cases hk : k < 1 ∨ 5 < k
    · rw [getP_6 h0 hk] at h; simp only [Prod.mk.injEq] at h; exact h.1.symm
    · have hk' : k = 1 ∨ k = 2 ∨ k = 3 ∨ k = 4 ∨ k = 5 := by omega
      rcases hk' with rfl | rfl | rfl | rfl | rfl
      · rw [getP_1 h0 rfl rfl rfl] at h; exact fin_no h he
      · rw [getP_2 h0 rfl] at h; exact fin_no h he
      · rw [getP_3 h0] at h; exact fin_no h he
      · rw [getP_4 h0 rfl] at h; exact fin_no h he
      · rw [getP_5 h0 rfl rfl rfl rfl rfl] at h; exact fin_no h he
  · obtain rfl := numP_zero h0 hb
    rw [getP_0 h0 hb] at h; simp only [Prod.mk.injEq] at h; exact h.1.symm
theorem szI (v : ByteArray) (h : v.size ≤ 4096) : v.size ≤ maxLen := by unfold maxLen; omega
theorem szZ : (⟨#[]⟩ : ByteArray).size ≤ maxLen := by decide
theorem wf0 : wfL 0 := by unfold wfL; omega
theorem get_once {s : ByteArray} {i : It} (h : getP s = (i, 0)) : rightI i = true ∧ bytesI i = s ∧ i.Wf := by
  obtain ⟨⟨k, a, b⟩, h0⟩ : ∃ r, numP s 0 0 = r := ⟨_, rfl⟩
  by_cases hb : b = 0
  · subst hb
    by_cases hk : k < 1 ∨ 5 < k
    · rw [getP_6 h0 hk] at h; simp at h
    · obtain ⟨-, u0, rfl, q0, z0, -, -, x0⟩ := numP_once (p := 0) h0 rfl
      have hk' : k = 1 ∨ k = 2 ∨ k = 3 ∨ k = 4 ∨ k = 5 := by omega
      rcases hk' with rfl | rfl | rfl | rfl | rfl
      · obtain ⟨⟨v1, a1, b1⟩, h1⟩ : ∃ r, txtP s u0 0 = r := ⟨_, rfl⟩
        obtain ⟨⟨v2, a2, b2⟩, h2⟩ : ∃ r, numP s a1 b1 = r := ⟨_, rfl⟩
        obtain ⟨⟨v3, a3, b3⟩, h3⟩ : ∃ r, sgnP s a2 b2 = r := ⟨_, rfl⟩
        rw [getP_1 h0 h1 h2 h3] at h
        obtain ⟨e3, hsz, hR, rfl⟩ := fin_once h
        have e2 : b2 = 0 := by
          rcases Classical.em (b2 = 0) with e | e
          · exact e
          · unfold sgnP at h3; rw [if_pos e] at h3; simp only [Prod.mk.injEq] at h3; omega
        have e1 : b1 = 0 := by
          rcases Classical.em (b1 = 0) with e | e
          · exact e
          · unfold numP at h2; rw [if_pos e] at h2; simp only [Prod.mk.injEq] at h2; omega
        obtain ⟨-, u1, rfl, q1, z1, y1, x1⟩ := txtP_once h1 e1
        obtain ⟨-, u2, rfl, q2, z2, l2, m2, x2⟩ := numP_once h2 e2
        obtain ⟨-, u3, rfl, q3, z3, w3, x3⟩ := sgnP_once h3 e3
        obtain rfl : u3 = s.size := by omega
        refine ⟨hR, ?_, ⟨by unfold wfL; simp, szI v1 y1, by unfold wfL; simp; omega, w3, wf0, wf0, wf0, wf0, szZ, wf0, wf0⟩⟩
        rw [show bytesI { itZ with kind := 1, ek := v1, ea := v2, ev := v3 } = digS (1 : Int).toNat ++ (digS v1.size ++ v1) ++ digS v2.toNat ++ digS (zz v3) from rfl, ← x0, ← x1, ← x2, ← x3, ext_app s (by omega) (by omega), ext_app s (by omega) (by omega), ext_app s (by omega) (by omega), ext_all]
      · obtain ⟨⟨v1, a1, b1⟩, h1⟩ : ∃ r, numP s u0 0 = r := ⟨_, rfl⟩
        rw [getP_2 h0 h1] at h
        obtain ⟨e1, hsz, hR, rfl⟩ := fin_once h
        obtain ⟨-, u1, rfl, q1, z1, l1, m1, x1⟩ := numP_once h1 e1
        obtain rfl : u1 = s.size := by omega
        refine ⟨hR, ?_, ⟨by unfold wfL; simp, szZ, wf0, wf0, by unfold wfL; simp; omega, wf0, wf0, wf0, szZ, wf0, wf0⟩⟩
        rw [show bytesI { itZ with kind := 2, ma := v1 } = digS (2 : Int).toNat ++ digS v1.toNat from rfl, ← x0, ← x1, ext_app s (by omega) (by omega), ext_all]
      · rw [getP_3 h0] at h
        obtain ⟨-, hsz, hR, rfl⟩ := fin_once h
        obtain rfl : u0 = s.size := by omega
        refine ⟨hR, ?_, ⟨by unfold wfL; simp, szZ, wf0, wf0, wf0, wf0, wf0, wf0, szZ, wf0, wf0⟩⟩
        rw [show bytesI { itZ with kind := 3 } = digS (3 : Int).toNat from rfl, ← x0, ext_all]
      · obtain ⟨⟨v1, a1, b1⟩, h1⟩ : ∃ r, numP s u0 0 = r := ⟨_, rfl⟩
        rw [getP_4 h0 h1] at h
        obtain ⟨e1, hsz, hR, rfl⟩ := fin_once h
        obtain ⟨-, u1, rfl, q1, z1, l1, m1, x1⟩ := numP_once h1 e1
        obtain rfl : u1 = s.size := by omega
        refine ⟨hR, ?_, ⟨by unfold wfL; simp, szZ, wf0, wf0, wf0, by unfold wfL; simp; omega, wf0, wf0, szZ, wf0, wf0⟩⟩
        rw [show bytesI { itZ with kind := 4, n := v1 } = digS (4 : Int).toNat ++ digS v1.toNat from rfl, ← x0, ← x1, ext_app s (by omega) (by omega), ext_all]
      · obtain ⟨⟨v1, a1, b1⟩, h1⟩ : ∃ r, txtP s u0 0 = r := ⟨_, rfl⟩
        obtain ⟨⟨v2, a2, b2⟩, h2⟩ : ∃ r, numP s a1 b1 = r := ⟨_, rfl⟩
        obtain ⟨⟨v3, a3, b3⟩, h3⟩ : ∃ r, numP s a2 b2 = r := ⟨_, rfl⟩
        obtain ⟨⟨v4, a4, b4⟩, h4⟩ : ∃ r, numP s a3 b3 = r := ⟨_, rfl⟩
        obtain ⟨⟨v5, a5, b5⟩, h5⟩ : ∃ r, sgnP s a4 b4 = r := ⟨_, rfl⟩
        rw [getP_5 h0 h1 h2 h3 h4 h5] at h
        obtain ⟨e5, hsz, hR, rfl⟩ := fin_once h
        have e4 : b4 = 0 := by
          rcases Classical.em (b4 = 0) with e | e
          · exact e
          · unfold sgnP at h5; rw [if_pos e] at h5; simp only [Prod.mk.injEq] at h5; omega
        have e3 : b3 = 0 := by
          rcases Classical.em (b3 = 0) with e | e
          · exact e
          · unfold numP at h4; rw [if_pos e] at h4; simp only [Prod.mk.injEq] at h4; omega
        have e2 : b2 = 0 := by
          rcases Classical.em (b2 = 0) with e | e
          · exact e
          · unfold numP at h3; rw [if_pos e] at h3; simp only [Prod.mk.injEq] at h3; omega
        have e1 : b1 = 0 := by
          rcases Classical.em (b1 = 0) with e | e
          · exact e
          · unfold numP at h2; rw [if_pos e] at h2; simp only [Prod.mk.injEq] at h2; omega
        obtain ⟨-, u1, rfl, q1, z1, y1, x1⟩ := txtP_once h1 e1
        obtain ⟨-, u2, rfl, q2, z2, l2, m2, x2⟩ := numP_once h2 e2
        obtain ⟨-, u3, rfl, q3, z3, l3, m3, x3⟩ := numP_once h3 e3
        obtain ⟨-, u4, rfl, q4, z4, l4, m4, x4⟩ := numP_once h4 e4
        obtain ⟨-, u5, rfl, q5, z5, w5, x5⟩ := sgnP_once h5 e5
        obtain rfl : u5 = s.size := by omega
        refine ⟨hR, ?_, ⟨by unfold wfL; simp, szZ, wf0, wf0, wf0, wf0, by unfold wfL; simp; omega, by unfold wfL; simp; omega, szI v1 y1, by unfold wfL; simp; omega, w5⟩⟩
        rw [show bytesI { itZ with kind := 5, lo := v2, hi := v3, rk := v1, rn := v4, rv := v5 } = digS (5 : Int).toNat ++ (digS v1.size ++ v1) ++ digS v2.toNat ++ digS v3.toNat ++ digS v4.toNat ++ digS (zz v5) from rfl, ← x0, ← x1, ← x2, ← x3, ← x4, ← x5, ext_app s (by omega) (by omega), ext_app s (by omega) (by omega), ext_app s (by omega) (by omega), ext_app s (by omega) (by omega), ext_app s (by omega) (by omega), ext_all]
  · obtain rfl := numP_zero h0 hb
    rw [getP_0 h0 hb] at h; simp only [Prod.mk.injEq] at h; exact absurd h.2 hb
end Go.Proofs.Ytgpifbdjcoiilaa
