/-
  WALKS: the reference's Right, joined; ItemRights.
-/
import Derived.Test.YtenpgkkefielfaaItemW5
import Derived.Deep.RegionHeld3
namespace Go.Proofs.Ytenpgkkefielfaa
open Go.RowKit

theorem beqL (a b : List UInt8) : (a == b) = (b == a) := by rw [Bool.eq_iff_iff]; simp only [beq_iff_eq]; exact ⟨Eq.symm, Eq.symm⟩
theorem beqZ (a b : Int) : (a == b) = (b == a) := by rw [Bool.eq_iff_iff]; simp only [beq_iff_eq]; exact ⟨Eq.symm, Eq.symm⟩
theorem decZ (a : Int) : decide (a = 0) = (0 == a) := by rw [Bool.eq_iff_iff]; simp only [beq_iff_eq, decide_eq_true_eq]; exact ⟨Eq.symm, Eq.symm⟩
theorem rright_any (i : It) (w : World) (b : Bool) (hb : rightI i = b) : Calls Try.prog 52 #[itV i] w fun e w' => e = .returned (.bool b) ∧ Below w.heap.size w w' := by
  obtain ⟨kind, ek, ea, ev, ma, n, lo, hi, rk, rn, rv⟩ := i
  by_cases h1 : kind = 1
  · refine rright1 kind ek ea ev ma n lo hi rk rn rv w b h1 ?_
    rw [← hb]; subst h1
    simp only [rightI, bareB, bareI, sameI, itZ, if_pos, beqL rk.toList, beqZ rn, beqZ rv, beqZ lo, beqZ hi, decZ, BEq.rfl, Bool.true_and, Bool.and_true]
    generalize evB ek ea = q
    cases q <;> simp
  by_cases h2 : kind = 2
  · refine rright2 kind ek ea ev ma n lo hi rk rn rv w b h2 ?_
    rw [← hb]; subst h2
    simp only [rightI, bareB, bareI, sameI, itZ, if_pos, beqL ek.toList, beqZ ea, beqZ ev, beqL rk.toList, beqZ rn, beqZ rv, beqZ lo, beqZ hi, decZ]
    generalize (decide (0 ≤ ma) && decide (ma ≤ 1099511627776)) = q
    simp
    cases q <;> simp
  by_cases h3 : kind = 3
  · refine rright3 kind ek ea ev ma n lo hi rk rn rv w b h3 ?_
    rw [← hb]; subst h3
    simp only [rightI, bareB, bareI, sameI, itZ, if_pos, beqL ek.toList, beqZ ea, beqZ ev, beqL rk.toList, beqZ rn, beqZ rv, beqZ lo, beqZ hi, decZ, Bool.and_true]
    simp
  by_cases h4 : kind = 4
  · refine rright4 kind ek ea ev ma n lo hi rk rn rv w b h4 ?_
    rw [← hb]; subst h4
    simp only [rightI, bareB, bareI, sameI, itZ, if_pos, beqL ek.toList, beqZ ea, beqZ ev, beqL rk.toList, beqZ rn, beqZ rv, beqZ lo, beqZ hi, decZ]
    generalize (decide (1 ≤ n) && decide (n ≤ 1073741824)) = q
    simp
    cases q <;> simp
  by_cases h5 : kind = 5
  · refine rright5 kind ek ea ev ma n lo hi rk rn rv w b h5 ?_
    rw [← hb]; subst h5
    simp only [rightI, bareB, bareI, sameI, itZ, if_pos, beqL ek.toList, beqZ ea, beqZ ev, decZ]
    generalize resB lo hi rk rn = q
    simp
    cases q <;> simp
  have hb' : b = false := by
    rw [← hb]; unfold rightI bareB
    simp only [if_neg h1, if_neg h2, if_neg h3, if_neg h4, if_neg h5]; rfl
  subst hb'
  exact rright6 kind ek ea ev ma n lo hi rk rn rv w (by omega)
end Go.Proofs.Ytenpgkkefielfaa
