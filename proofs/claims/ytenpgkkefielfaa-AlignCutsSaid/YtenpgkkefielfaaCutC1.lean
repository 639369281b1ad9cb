/-
  The law AlignCuts: what an offer makes of the state.
-/
import Derived.Test.YtenpgkkefielfaaCutM
import Derived.Test.YtenpgkkefielfaaAlignW19
set_option linter.unusedVariables false
set_option linter.unusedSimpArgs false
namespace Go.Proofs.Ytenpgkkefielfaa
open Go.RowKit

/-- What an offer answers, told by the state. -/
def OffC (B n : Nat) (R : Nat → List It) (E : Nat → Nat → Nat) (c : Nat) (pos : Nat → Nat) (P : Nat → List It) (k : Nat) (x : It) (va : Value) (a : Aln) (w : World) (e : Ending) (w' : World) : Prop :=
  (∃ (v' : Value) (a' : Aln), AlAt w' v' a' ∧ (∀ b, AlBlk v' a' b → AlBlk va a b ∨ w.heap.size ≤ b) ∧
    ((e = .returned (.tuple #[v', .bool true, .int .i64 0, .slice none 0 0, .int .i64 0]) ∧ CSt B n R E c (updN pos k (pos k + 1)) a' (updN P k (P k ++ [x])))
    ∨ (e = .returned (.tuple #[v', .bool false, .int .i64 0, .slice none 0 0, .int .i64 0]) ∧ CSt B n R E c (updN pos k (pos k + 1)) a' P)
    ∨ (∃ (vl : Value) (late : List Lt), e = .returned (.tuple #[v', .bool false, .int .i64 ((c : Int) + 1), vl, .int .i64 0]) ∧ c < B ∧ CSt B n R E (c + 1) (fun j => E j c + 1) a' (fun _ => []) ∧
        (∀ j, j < n → P j = ((R j).take (E j c)).drop (sgo (E j) c)) ∧ Row Lt.cs 12 w' vl late ∧ (∀ b, vl.ownBlock = some b → w.heap.size ≤ b) ∧ late.length ≤ 128 ∧
        (∀ q y, late[q]? = some y → ∃ j, j < n ∧ y.k = (j : Int) ∧ (R j)[E j c + 1 + cntL (late.take q) j]? = some y.it) ∧
        (∀ j, j < n → E j c + 1 + cntL late j = updN pos k (pos k + 1) j))))
  ∧ Below w.heap.size w w'
theorem AlBlk.fresh {w : World} {v' : Value} {a' : Aln} {X : Nat → Prop} (hf : FrH w v') (hh : ∀ h ∈ a'.held, ∀ b, h.row.ownBlock = some b → 0 < h.l.length → X b ∨ w.heap.size ≤ b) : ∀ b, AlBlk v' a' b → X b ∨ w.heap.size ≤ b := by
  intro b hb
  obtain ⟨x, y, b', o, n, c, rfl, h1, h2⟩ := hf
  rcases hb with ⟨x', y', z', e, hb⟩ | ⟨h, hm, hb, hl⟩
  · injection e with e
    injection e with e
    simp at e
    obtain ⟨-, rfl, rfl⟩ := e
    rcases hb with ⟨hb, -⟩ | ⟨hb, -⟩
    · exact .inr (h2 b hb)
    · have hb : b' = b := Option.some.inj hb
      exact .inr (by omega)
  · exact hh h hm b hb hl
theorem offer_cst {B n : Nat} {R : Nat → List It} {E : Nat → Nat → Nat} {c : Nat} {pos : Nat → Nat} {a : Aln} {P : Nat → List It} (hC : CSt B n R E c pos a P) {k : Nat} (hk : k < n) {x : It} (hx : (R k)[pos k]? = some x) (v : Value) (w : World) (hv : AlAt w v a) :
    Calls Try.prog 19 #[v, .int .i64 (k : Int), itV x] w (OffC B n R E c pos P k x v a w) := by
  have hr := hC.right
  have hrow := hC.row k hk
  have hmem := List.mem_of_getElem? hx
  obtain ⟨hri, hwf⟩ := hrow.ok x hmem
  have hkg : k < a.got.length := by rw [hC.gl]; exact hk
  have h8 : a.got.length ≤ 8 := by rw [hC.gl]; exact hC.n8
  obtain ⟨y, hy, hyl⟩ := hC.held k hk
  have hg := hC.got k hk
  have hin : ∀ h ∈ a.held, ∀ b, h.row.ownBlock = some b → 0 < h.l.length → AlBlk v a b ∨ w.heap.size ≤ b := fun h hm b hb hl => .inl (.inr ⟨h, hm, hb, hl⟩)
  rcases Nat.lt_trichotomy (pos k) (E k c) with hp | hp | hp
  · obtain ⟨h1, h2, h3⟩ := hC.pass hk hp hx
    refine (offer_pass a k x hwf v w hv hr hri hkg h8 y hy false h1 rfl h2).mono ?_
    rintro e w' ⟨⟨he, ha⟩, hb⟩
    exact ⟨⟨v, a, ha, fun b hb => .inl hb, .inl ⟨he, h3⟩⟩, hb⟩
  · obtain ⟨h1, h2, h3, h4⟩ := hC.at_bar hk hp hx
    have hk4 : x.kind = 4 := by rw [h2]; rfl
    by_cases hc : (a.got.set k true).contains false = true
    · refine (offer_barrier a k x hwf v w hv hr hri hkg h8 y hy false h3 rfl hk4 h4 hc).mono ?_
      rintro e w' ⟨⟨v', he, ha, hf⟩, hb⟩
      exact ⟨⟨v', _, ha, AlBlk.fresh hf hin, .inr (.inl ⟨he, hC.bar hk hp hx hc⟩)⟩, hb⟩
    · have hc : (a.got.set k true).contains false = false := by simpa using hc
      obtain ⟨h5, h6, h7⟩ := hC.whole hk hp hx hc
      refine (offer_whole a k x hwf v w hv hr hri hkg h8 y hy false h3 rfl hk4 h4 hc).mono ?_
      rintro e w' ⟨⟨v', vl, he, ha, hf, hl, hn⟩, hb⟩
      rw [hC.gl] at ha
      have hxn : x.n = (c : Int) + 1 := by rw [h2]; rfl
      rw [hxn] at he
      rw [hC.hl] at hl
      refine ⟨⟨v', newA' n, ha, AlBlk.fresh hf (fun h hm b hb hl => ?_), .inr (.inr ⟨vl, _, he, h1, h7, h6, hl, hn, ?_, fun q y hy => late_next hC.held n (Nat.le_refl _) q y hy, fun j hj => ?_⟩)⟩, hb⟩
      · obtain rfl := List.eq_of_mem_replicate (show h ∈ List.replicate n hZ from hm)
        simp [hZ] at hl
      · have := lateTo_len (held := a.held) (fun i z hz => by
          by_cases hi : i < n
          · obtain ⟨z', hz1, hz2⟩ := hC.held i hi
            rw [hz] at hz1
            injection hz1 with hz1
            subst hz1
            rw [hz2, hldP_len (hC.hi i hi)]
            have := (hC.row i hi).len
            have := hC.hi i hi
            omega
          · have := (List.getElem?_eq_some_iff.1 hz).1
            rw [hC.hl] at this
            omega) n (by rw [hC.hl]; exact Nat.le_refl _)
        have := hC.n8
        omega
      · rw [cntL_lateTo hC.held j n (Nat.le_refl _), if_pos hj, hldP_len (hC.hi j hj)]
        by_cases e : j = k
        · subst e
          rw [updN_same]
          omega
        · rw [updN_other _ _ e]
          have := h5 j hj e
          omega
  · obtain ⟨h1, h2, -⟩ := hC.hold hk hp hx hy (.slice none 0 0)
    refine (offer_held a k x hwf v w hv hr hri hkg h8 y hy true h1 rfl h2).mono ?_
    rintro e w' ⟨⟨v', row', he, ha, hf, hn⟩, hb⟩
    refine ⟨⟨v', _, ha, AlBlk.fresh hf (fun h hm b hb hl => ?_), .inr (.inl ⟨he, (hC.hold hk hp hx hy row').2.2⟩)⟩, hb⟩
    rcases List.mem_or_eq_of_mem_set hm with h3 | rfl
    · exact hin h h3 b hb hl
    · exact .inr (hn b hb)
end Go.Proofs.Ytenpgkkefielfaa
