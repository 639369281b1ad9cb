/-
  WALKS of layer 18: alive, small, has, Room.
-/
import Derived.Test.YtenpgkkefielfaaAlignW7
import Derived.Deep.RegionLaw
import Derived.Deep.RegionHeld3
set_option linter.unusedVariables false
set_option linter.unusedSimpArgs false
namespace Go.Proofs.Ytenpgkkefielfaa
open Go.RowKit

theorem nwA_one : nwE 1 = 0 ∧ (nwA 1).got.length = 1 := by unfold nwE nwA newA'; simp
set_option maxRecDepth 100000 in
theorem aalive_any (w : World) : Calls Try.prog 15 #[] w fun e w' => e = .returned (.bool true) ∧ Below w.heap.size w w' := by
  have HN := Lib.hid (fun W => anew_all 1 W)
  unfold NwTo at HN
  rw [nwA_one.1] at HN
  go_enter Try.func15, Try.ntmps15
  go_wp2_with fail
  refine (HN.out _).mono ?_
  rintro e w1 ⟨⟨v, rfl, ha⟩, hb⟩
  obtain ⟨Ag, cg, Ah, ch, rfl, -⟩ := al_form ha
  rw [nwA_one.2]
  go_wp2_with fail
  go_ret
  exact ⟨rfl, bel_alloc hb _⟩
set_option maxRecDepth 100000 in
set_option maxHeartbeats 2000000 in
theorem asmall_any (a : Aln) (v : Value) (w : World) (hv : AlAt w v a) : Calls Try.prog 21 #[v] w fun e w' => (∃ b, e = .returned (.bool b)) ∧ Below w.heap.size w w' := by
  obtain ⟨Ag, cg, Ah, ch, rfl, hg, hh, hat, -, hlg, hlh⟩ := al_form hv
  have HH := Lib.hid hh
  have HAT := Lib.hid hat
  unfold maxLen at hlg hlh
  obtain ⟨lg, hlg'⟩ : ∃ n, a.got.length = n := ⟨_, rfl⟩
  obtain ⟨lh, hlh'⟩ : ∃ n, a.held.length = n := ⟨_, rfl⟩
  have HLH := Lib.hid hlh'
  rw [hlg'] at hlg ⊢
  rw [hlh'] at hlh HH ⊢
  clear hv hg hh hat hlg' hlh'
  go_enter Try.func21, Try.ntmps21
  go_wp2_with fail
  obtain ⟨W1, hW2⟩ : ∃ X, X = (w).alloc (.cells #[.int .i64 a.n, .slice Ag lg cg, .slice Ah lh ch] 26) := ⟨_, rfl⟩
  rw [← hW2]
  have hb3 : Below w.heap.size w W1 := by rw [hW2]; exact bel_alloc (Below.refl _ _) _
  have Na := Lib.hid (show W1.heap[w.heap.size]? = some (.cells #[.int .i64 a.n, .slice Ag lg cg, .slice Ah lh ch] 26 (0, 0)) by rw [hW2]; exact heap_at (w) _ (w.heap.size) (by simp))
  clear hW2
  have BB4 := Lib.hid hb3
  clear hb3
  have Bla := Na
  clear Na
  go_loopw [8] (fun i wr => LlRel lh W1 i wr) (fun i _ => lh - (intOf i).toNat)
  case atStart => exact ⟨0, Nat.zero_le _, rfl, Below.refl _ _⟩
  case round =>
    obtain ⟨k, hk, rfl, hbel⟩ := hrel
    have hrelB := Lib.hid hbel
    have Z := Lib.hid (heap_below Bla.out hbel)
    clear Bla
    have Bla := Z
    clear Z
    have BB5 := Lib.hid (bThen BB4.out hbel)
    clear hbel
    by_cases hlt : k < lh
    · obtain ⟨x, hi⟩ : ∃ x, a.held[k]? = some x := ⟨_, List.getElem?_eq_getElem (by rw [HLH.out]; exact hlt)⟩
      obtain ⟨b1, o1, d1, e1, -, hb1, hX1⟩ := HH.out.at_ hi
      injection e1 with e1 e1b e1c
      subst e1
      clear e1b e1c
      have p0 := (BB5.out.cell (p := ⟨b1, o1 + k * 1 + 0, none⟩) hb1).trans (hX1 0 _ rfl)
      obtain ⟨⟨Ax, cx, hxe, -, -⟩, -, hxm⟩ := HAT.out x (List.mem_of_getElem? hi)
      simp only [Nat.add_zero, Nat.mul_one] at p0
      clear hX1 hi
      obtain ⟨xr, xl⟩ := x
      simp only at hxe p0 hxm
      subst hxe
      unfold maxLen at hxm
      have zb1 := Nat.lt_of_lt_of_le hb1 BB5.out.size
      obtain ⟨q, hq⟩ : ∃ q, decide (100 < (xl.length : Int)) = q := ⟨_, rfl⟩
      have hq2 : decide (100 < xl.length) = q := by rw [← hq]; exact decide_eq_decide.2 (by omega)
      cases q with
      | true =>
        go_wp2_with fail
        go_ret
        exact ⟨⟨_, rfl⟩, BB5.out⟩
      | false =>
        go_wp2_with fail
        go_roundw
        case rel => exact ⟨k + 1, by omega, by go_num, hrelB.out⟩
        case measure => simp [intOf]; omega
    · have hkn : lh = k := by omega
      subst hkn
      have za := blk_lt Bla.out
      have xa0 := cellsAt Bla.out 0
      have xa1 := cellsAt Bla.out 1
      have xa2 := cellsAt Bla.out 2
      have fa := frozAt Bla.out
      simp at xa0 xa1 xa2
      obtain ⟨q1, hq1⟩ : ∃ q, decide ((lh : Int) ≤ 20) = q := ⟨_, rfl⟩
      obtain ⟨q2, hq2⟩ : ∃ q, decide ((lg : Int) ≤ 20) = q := ⟨_, rfl⟩
      cases q1 <;> cases q2
      all_goals
        go_wp2_with fail
        go_ret
        exact ⟨⟨_, rfl⟩, BB5.out⟩
def roomA (a : Aln) (i : Int) : Int := if rightA a = true ∧ 0 ≤ i ∧ i < a.got.length then 16 - (a.held[i.toNat]!.l.length : Int) else 0
set_option maxRecDepth 100000 in
theorem ahas_any (a : Aln) (i : Int) (hi : wfL i) (v : Value) (w : World) (hv : AlAt w v a) :
    Calls Try.prog 44 #[v, .int .i64 i] w fun e w' => e = .returned (.bool (decide (rightA a = true ∧ 0 ≤ i ∧ i < a.got.length))) ∧ Below w.heap.size w w' := by
  have HV := Lib.hid hv
  obtain ⟨q, hq⟩ : ∃ q, rightA a = q := ⟨_, rfl⟩
  have HR := Lib.hid (fun v W hW => aright_any a v W hW q hq)
  obtain ⟨Ag, cg, Ah, ch, rfl, -, -, -, -, hlg, -⟩ := al_form hv
  unfold maxLen at hlg
  unfold wfL at hi
  rw [hq]
  clear hv hq
  obtain ⟨lg, hlg'⟩ : ∃ n, a.got.length = n := ⟨_, rfl⟩
  rw [hlg'] at hlg HV ⊢
  clear hlg'
  go_enter Try.func44, Try.ntmps44
  go_wp2_with fail
  have KV := HV
  obtain ⟨W1, hW2⟩ : ∃ X, X = (w).alloc (.cells #[.int .i64 a.n, .slice Ag lg cg, .slice Ah a.held.length ch] 26) := ⟨_, rfl⟩
  rw [← hW2]
  have hb3 : Below w.heap.size w W1 := by rw [hW2]; exact bel_alloc (Below.refl _ _) _
  have Ns := Lib.hid (show W1.heap[w.heap.size]? = some (.cells #[.int .i64 a.n, .slice Ag lg cg, .slice Ah a.held.length ch] 26 (0, 0)) by rw [hW2]; exact heap_at (w) _ (w.heap.size) (by simp))
  clear hW2
  have Z := Lib.hid (AlAt.below KV.out hb3)
  clear KV
  have KV := Z
  clear Z
  have BB4 := Lib.hid hb3
  clear hb3
  have Bls := Ns
  clear Ns
  refine (HR.out _ _ KV.out).mono ?_
  rintro e w5 ⟨rfl, hb6⟩
  have Z := Lib.hid (heap_below Bls.out hb6)
  clear Bls
  have Bls := Z
  clear Z
  have Z := Lib.hid (AlAt.below KV.out hb6)
  clear KV
  have KV := Z
  clear Z
  have BB7 := Lib.hid (bThen BB4.out hb6)
  clear hb6
  have zs := blk_lt Bls.out
  have xs0 := cellsAt Bls.out 0
  have xs1 := cellsAt Bls.out 1
  have xs2 := cellsAt Bls.out 2
  have fs := frozAt Bls.out
  simp at xs0 xs1 xs2
  cases q with
  | false =>
    go_wp2_with fail
    go_ret
    exact ⟨by simp, BB7.out⟩
  | true =>
    by_cases h1 : 0 ≤ i
    · by_cases h2 : i < lg
      · have t1 : decide (0 ≤ i) = true := by simpa using h1
        have t2 : decide (i < (lg : Int)) = true := by simpa using h2
        go_wp2_with fail
        go_ret
        exact ⟨by simp [h1, h2], BB7.out⟩
      · have t1 : decide (0 ≤ i) = true := by simpa using h1
        have t2 : decide (i < (lg : Int)) = false := by simpa using h2
        go_wp2_with fail
        go_ret
        exact ⟨by simp [h1, h2], BB7.out⟩
    · have t1 : decide (0 ≤ i) = false := by simpa using h1
      go_wp2_with fail
      go_ret
      exact ⟨by simp [h1], BB7.out⟩
end Go.Proofs.Ytenpgkkefielfaa
