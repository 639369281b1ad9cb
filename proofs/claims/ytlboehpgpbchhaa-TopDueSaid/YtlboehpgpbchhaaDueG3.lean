/-
  WALKS of the law TopDue: panes that are due.
-/
import Derived.Test.YtlboehpgpbchhaaDueG2
import Derived.Deep.RegionLaw
set_option linter.unusedVariables false
set_option linter.unusedSimpArgs false
namespace Go.Proofs.Ytlboehpgpbchhaa
open Go.RowKit

theorem row_takeP {W : World} {l : List Pn} {A : Option Addr} {c m : Nat} (h : Row Pn.cs 6 W (.slice A l.length c) l) (hm : m ≤ l.length) : Row Pn.cs 6 W (.slice A m c) (l.take m) := by
  obtain ⟨A', c', e, hc, hx⟩ := h
  injection e with e1 e2 e3
  subst e1 e3
  have hlen : (l.take m).length = m := by rw [List.length_take]; omega
  refine ⟨A, c, by rw [hlen], by omega, fun hl => ?_⟩
  rw [hlen] at hl
  obtain ⟨b, o, ha, hb, hX⟩ := hx (by omega)
  refine ⟨b, o, ha, hb, fun i x j u h1 h2 => hX i x j u ?_ h2⟩
  rw [List.getElem?_take] at h1
  split at h1
  · exact h1
  · cases h1
theorem row_dropP {W : World} {l : List Pn} {b o c j : Nat} (h : Row Pn.cs 6 W (.slice (some ⟨b, o, none⟩) l.length c) l) (hj : j ≤ l.length) :
    Row Pn.cs 6 W (.slice (if c = j then some ⟨b, o, none⟩ else some ⟨b, o + j * 6, none⟩) (l.length - j) (c - j)) (l.drop j) := by
  obtain ⟨A, c', e, hc, h⟩ := h
  injection e with e1 _ e3
  subst e1 e3
  refine ⟨_, c - j, by rw [List.length_drop], by rw [List.length_drop]; omega, fun hl => ?_⟩
  rw [List.length_drop] at hl
  obtain ⟨b', o', ha, hb, hx⟩ := h (by omega)
  injection ha with ha
  injection ha with h1 h2
  subst h1 h2
  refine ⟨b, o + j * 6, by rw [if_neg (by omega)], hb, fun i x m u h1 h2 => ?_⟩
  rw [List.getElem?_drop] at h1
  have := hx (j + i) x m u h1 h2
  rw [← this]
  congr 2
  rw [Nat.add_mul]
  omega
/-- What pane.Due tells. -/
def PdTo (m : Int) (l : List Pn) (w : World) (e : Ending) (w' : World) : Prop :=
  ∃ (k : Nat) (v1 v2 : Value), k ≤ l.length ∧ e = .returned (.tuple #[v1, v2]) ∧ Row Pn.cs 6 w' v1 (l.take k) ∧ Row Pn.cs 6 w' v2 (l.drop k) ∧ clB m (l.take k) = true ∧ (∀ x, l[k]? = some x → m < x.hi) ∧ Below w.heap.size w w'
set_option maxRecDepth 100000 in
set_option maxHeartbeats 4000000 in
theorem pdue_any (m : Int) (l : List Pn) (v : Value) (w : World) (hv : Row Pn.cs 6 w v l) (hwf : ∀ p ∈ l, p.k.size ≤ maxLen) (hl : l.length ≤ 2000) (hp : prB l = true) :
    Calls Try.prog 54 #[v, .int .i64 m] w (PdTo m l w) := by
  have HV := Lib.hid hv
  have HP := Lib.hid (fun w h => pright_any l v w h hwf (by unfold maxLen; omega))
  rw [hp] at HP
  have HI := Lib.hid (fun g w h hg => dindex_any l v g m w h hl hg)
  obtain ⟨A, c, rfl, hc, hA⟩ := hv
  obtain ⟨n, hn⟩ : ∃ n, l.length = n := ⟨_, rfl⟩
  have HN := Lib.hid hn
  rw [hn] at HV HP HI hl hc ⊢
  clear hn hA hp hwf
  go_enter Try.func54, Try.ntmps54
  go_wp2_with fail
  obtain ⟨W2, hW2⟩ : ∃ X, X = w.alloc (.cells #[.int .i64 m] 2) := ⟨_, rfl⟩
  rw [← hW2]
  have B2 := Lib.hid (show Below w.heap.size w W2 by rw [hW2]; exact bel_alloc (Below.refl _ _) _)
  have M2 := Lib.hid (show MBx w.heap.size m W2 by rw [hW2]; exact heap_at _ _ _ rfl)
  clear hW2
  refine (HP.out _ (HV.out.below B2.out)).mono ?_
  rintro e w3 ⟨rfl, hb3⟩
  have B3 := Lib.hid (bThen B2.out hb3)
  have M3 := Lib.hid (show MBx w.heap.size m w3 from heap_below M2.out hb3)
  clear hb3
  go_wp2_with fail
  refine (HI.out _ _ (HV.out.below B3.out) M3.out).mono ?_
  rintro e w4 ⟨k, hk, rfl, hcl, hop, hb4⟩
  rw [HN.out] at hk ⊢
  have B4 := Lib.hid (bThen B3.out hb4)
  have HCL := Lib.hid hcl
  have HOP := Lib.hid hop
  clear hb4 hcl hop
  have R4 := Lib.hid (HV.out.below B4.out)
  by_cases hkn : k < n
  · rw [if_pos hkn]
    have d1 : decide ((k : Int) < 0) = false := decide_eq_false (by omega)
    go_wp2_with fail
    have HC1 := Lib.hid (fun W (h : Row Pn.cs 6 W (.slice A k c) (l.take k)) => pclone_any (l.take k) _ W h (by rw [List.length_take, HN.out]; omega))
    have hA : ∃ b o, A = some ⟨b, o, none⟩ := by
      obtain ⟨A', c', e, -, hx⟩ := R4.out
      injection e with e1 e2 e3
      subst e1
      obtain ⟨b, o, h, -⟩ := hx (by rw [HN.out]; omega)
      exact ⟨b, o, h⟩
    obtain ⟨b, o, rfl⟩ := hA
    have HC2 := Lib.hid (fun v W (h : Row Pn.cs 6 W v (l.drop k)) => pclone_any (l.drop k) v W h (by rw [List.length_drop, HN.out]; omega))
    have hk2 : k ≤ c := by omega
    have hck : ¬ c = k := by omega
    have RT := Lib.hid (show Row Pn.cs 6 w4.drew (.slice (some ⟨b, o, none⟩) k c) (l.take k) from row_takeP (by rw [HN.out]; exact R4.out) (by rw [HN.out]; exact hk))
    have RD := Lib.hid (show Row Pn.cs 6 w4.drew (.slice (some ⟨b, o + k * 6, none⟩) (n - k) (c - k)) (l.drop k) by have h := row_dropP (j := k) (W := w4.drew) (l := l) (b := b) (o := o) (c := c) (by rw [HN.out]; exact R4.out) (by rw [HN.out]; exact hk); rw [if_neg hck, HN.out] at h; exact h)
    go_region_law (first | (go_simp; go_at_call 73; refine (HC1.out _ RT.out).mono ?_; rintro e w5 ⟨v5, rfl, hown5, hb5⟩) | (go_simp; go_at_call 73; refine (HC2.out _ w5 (RD.out.below hb5)).mono ?_; rintro e w6 ⟨v6, rfl, hown6, hb6⟩))
    have RT6 := Lib.hid ((Row.of_own Pn.cs_len hown5 rfl).below hb6)
    have RD6 := Lib.hid (Row.of_own Pn.cs_len hown6 rfl)
    have BE := Lib.hid (bThen (bThen B4.out (bUndrew hb5)) hb6)
    clear hown5 hb5 hown6 hb6 RT RD
    go_wp2_with fail
    go_ret2
    exact ⟨k, _, _, by rw [HN.out]; exact hk, rfl, RT6.out, RD6.out, HCL.out, HOP.out, BE.out⟩
  · rw [if_neg hkn]
    obtain rfl : k = n := by omega
    have hlt : l.take k = l := List.take_of_length_le (by rw [HN.out]; exact Nat.le_refl _)
    have hld : l.drop k = [] := List.drop_of_length_le (by rw [HN.out]; exact Nat.le_refl _)
    have HLT := Lib.hid hlt
    have HLD := Lib.hid hld
    clear hlt hld
    have HC1 := Lib.hid (fun W (h : Row Pn.cs 6 W (.slice A k c) l) => pclone_any l _ W h (by rw [HN.out]; omega))
    have HC2 := Lib.hid (fun A' c' W => pclone_any [] (.slice A' 0 c') W ⟨A', c', rfl, Nat.zero_le _, fun h => absurd h (by simp)⟩ (by simp))
    have RT := Lib.hid (show Row Pn.cs 6 w4.drew (.slice A k c) l from R4.out)
    go_wp2_with fail
    cases A with
    | none =>
      go_region_law (first | (go_simp; go_at_call 73; refine (HC1.out _ RT.out).mono ?_; rintro e w5 ⟨v5, rfl, hown5, hb5⟩) | (go_simp; go_at_call 73; refine (HC2.out _ _ w5).mono ?_; rintro e w6 ⟨v6, rfl, hown6, hb6⟩))
      have RT6 := Lib.hid ((Row.of_own Pn.cs_len hown5 rfl).below hb6)
      have RD6 := Lib.hid (Row.of_own (l := ([] : List Pn)) Pn.cs_len hown6 rfl)
      have BE := Lib.hid (bThen (bThen B4.out (bUndrew hb5)) hb6)
      clear hown5 hb5 hown6 hb6 RT
      go_wp2_with fail
      go_ret2
      exact ⟨k, _, _, by rw [HN.out]; exact Nat.le_refl _, rfl, by rw [HLT.out]; exact RT6.out, by rw [HLD.out]; exact RD6.out, HCL.out, HOP.out, BE.out⟩
    | some p =>
      go_region_law (first | (go_simp; go_at_call 73; refine (HC1.out _ RT.out).mono ?_; rintro e w5 ⟨v5, rfl, hown5, hb5⟩) | (go_simp; go_at_call 73; refine (HC2.out _ _ w5).mono ?_; rintro e w6 ⟨v6, rfl, hown6, hb6⟩))
      all_goals
        have RT6 := Lib.hid ((Row.of_own Pn.cs_len hown5 rfl).below hb6)
        have RD6 := Lib.hid (Row.of_own (l := ([] : List Pn)) Pn.cs_len hown6 rfl)
        have BE := Lib.hid (bThen (bThen B4.out (bUndrew hb5)) hb6)
        clear hown5 hb5 hown6 hb6 RT
        go_wp2_with fail
        all_goals
          go_ret2
          exact ⟨k, _, _, by rw [HN.out]; exact Nat.le_refl _, rfl, by rw [HLT.out]; exact RT6.out, by rw [HLD.out]; exact RD6.out, HCL.out, HOP.out, BE.out⟩
end Go.Proofs.Ytlboehpgpbchhaa
