/-
  WALKS of layer 20: Split refused, alive, Like; the law ChunkSplits.
-/
import Derived.Test.YtdanfeldbdooeaaChunkW3
set_option linter.unusedVariables false
set_option linter.unusedSimpArgs false
namespace Go.Proofs.Ytdanfeldbdooeaa
open Go.RowKit

set_option maxHeartbeats 1000000 in
theorem split_no (g : Int) (s : ByteArray) (w : World) (hg : (decide (0 ≤ g) && decide (g < 32)) = false) :
    Calls Try.prog 32 #[.int .i64 g, .string s] w fun e w' => e = .returned (.tuple #[.slice none 0 0, .int .i64 1]) ∧ Below w.heap.size w w' := by
  have HG := Lib.hid (fun W => group_any g W false hg)
  clear hg
  go_enter Try.func32, Try.ntmps32
  go_wp2_with fail
  refine (HG.out _).mono ?_
  rintro e w' ⟨rfl, rfl⟩
  go_wp2_with fail
  go_ret2
  exact ⟨rfl, bel_alloc (Below.refl _ _) _⟩
set_option maxHeartbeats 1000000 in
theorem rsplit_no (g : Int) (s : ByteArray) (w : World) (hg : (decide (0 ≤ g) && decide (g < 32)) = false) :
    Calls Try.prog 34 #[.int .i64 g, .string s] w fun e w' => e = .returned (.tuple #[.slice none 0 0, .int .i64 1]) ∧ Below w.heap.size w w' := by
  have HG := Lib.hid (fun W => rgroup_any g W false hg)
  clear hg
  go_enter Try.func34, Try.ntmps34
  go_wp2_with fail
  refine (HG.out _).mono ?_
  rintro e w' ⟨rfl, rfl⟩
  go_wp2_with fail
  go_ret2
  exact ⟨rfl, Below.refl _ _⟩
set_option maxHeartbeats 1000000 in
theorem split_long (g : Int) (s : ByteArray) (w : World) (hg : (decide (0 ≤ g) && decide (g < 32)) = true) (hs : 131072 < s.size) (hs2 : s.size ≤ 9223372036854775807) :
    Calls Try.prog 32 #[.int .i64 g, .string s] w fun e w' => e = .returned (.tuple #[.slice none 0 0, .int .i64 2]) ∧ Below w.heap.size w w' := by
  have HG := Lib.hid (fun W => group_any g W true hg)
  clear hg
  go_enter Try.func32, Try.ntmps32
  go_wp2_with fail
  refine (HG.out _).mono ?_
  rintro e w' ⟨rfl, rfl⟩
  go_wp2_with fail
  go_ret2
  exact ⟨rfl, bel_alloc (Below.refl _ _) _⟩
set_option maxHeartbeats 1000000 in
theorem rsplit_long (g : Int) (s : ByteArray) (w : World) (hg : (decide (0 ≤ g) && decide (g < 32)) = true) (hs : 131072 < s.size) (hs2 : s.size ≤ 9223372036854775807) :
    Calls Try.prog 34 #[.int .i64 g, .string s] w fun e w' => e = .returned (.tuple #[.slice none 0 0, .int .i64 2]) ∧ Below w.heap.size w w' := by
  have HG := Lib.hid (fun W => rgroup_any g W true hg)
  clear hg
  go_enter Try.func34, Try.ntmps34
  go_wp2_with fail
  refine (HG.out _).mono ?_
  rintro e w' ⟨rfl, rfl⟩
  go_wp2_with fail
  go_ret2
  exact ⟨rfl, Below.refl _ _⟩
set_option maxHeartbeats 1000000 in
theorem calive_any (w : World) : Calls Try.prog 28 #[] w fun e w' => e = .returned (.bool true) ∧ Below w.heap.size w w' := by
  have HS := Lib.hid (fun W => split_yes 0 ⟨#[]⟩ W (by decide) (by decide) (by decide))
  go_enter Try.func28, Try.ntmps28
  go_wp2_with fail
  refine (HS.out _).mono ?_
  rintro e w' ⟨v, rfl, ⟨A, c, rfl, _, _⟩, hb⟩
  rw [show (splitL 0 ⟨#[]⟩).length = 1 from rfl]
  have HB := Lib.hid hb
  clear hb
  go_wp2_with fail
  go_ret
  exact ⟨rfl, HB.out⟩
set_option maxHeartbeats 1000000 in
theorem likeG_same (g o : Int) (l : List Ck) (v u : Value) (w : World) (hv : Row Ck.cs 4 w v l) (hu : Row Ck.cs 4 w u l) (hl : l.length ≤ 1000000) :
    Calls Try.prog 30 #[.agg #[.int .i64 g, .int .i64 o, v], .agg #[.int .i64 g, .int .i64 o, u]] w fun e w' => e = .returned (.bool true) ∧ Below w.heap.size w w' := by
  have HV := Lib.hid hv
  have HU := Lib.hid hu
  obtain ⟨A, c, rfl, -⟩ := hv
  obtain ⟨A', c', rfl, -⟩ := hu
  obtain ⟨n, hn⟩ : ∃ n, l.length = n := ⟨_, rfl⟩
  rw [hn] at HV HU ⊢
  have Hl := Lib.hid hl
  clear hl hn
  go_enter Try.func30, Try.ntmps30
  go_wp2_with fail
  refine (likeC_same l _ _ _ ((HV.out.alloc _).alloc _) ((HU.out.alloc _).alloc _) Hl.out).mono ?_
  rintro e w' ⟨rfl, m, rfl⟩
  go_wp2_with fail
  go_ret
  exact ⟨rfl, bDrewN (bel_alloc (bel_alloc (Below.refl _ _) _) _)⟩
theorem splitL_le (g : Int) (s : ByteArray) (hs : s.size ≤ 131072) : (splitL g s).length ≤ 1000000 := by rw [splitL_len]; unfold nOf; omega
set_option maxHeartbeats 2000000 in
set_option maxRecDepth 100000 in
theorem splits_walk (g : Int) (s : ByteArray) (w : World) (hs2 : s.size ≤ 9223372036854775807) :
    Calls Try.prog 11 #[.int .i64 g, .string s] w fun e w' => e = .returned (.bool true) ∧ Below w.heap.size w w' := by
  cases hg : (decide (0 ≤ g) && decide (g < 32)) with
  | false =>
    have H1 := Lib.hid (fun W => split_no g s W hg)
    have H2 := Lib.hid (fun W => rsplit_no g s W hg)
    have H3 := Lib.hid (fun W => new_any g W false hg)
    have Hg : g < 0 ∨ 32 ≤ g := by simp at hg; omega
    have HG := Lib.hid Hg
    clear hg Hg hs2
    go_enter Try.func11, Try.ntmps11
    go_wp2_with fail
    refine (H1.out _).mono ?_
    rintro e w1 ⟨rfl, hb⟩
    have B1 := Lib.hid hb
    clear hb
    go_wp2_with fail
    refine (H2.out _).mono ?_
    rintro e w2 ⟨rfl, hb⟩
    have B2 := Lib.hid (bThen B1.out hb)
    clear hb B1
    go_wp2_with fail
    refine (H3.out _).mono ?_
    rintro e w3 ⟨rfl, hb⟩
    have B3 := Lib.hid (bThen B2.out hb)
    clear hb B2
    rw [if_neg (by decide), if_neg (by decide)]
    by_cases h0 : g < 0
    · go_wp2_with fail
      refine (calive_any _).mono ?_
      rintro e w4 ⟨rfl, hb⟩
      have K4 := Lib.hid (newA hb)
      have B4 := Lib.hid (belA B3.out hb)
      clear hb B3
      have c0 := cellsAt K4.out 0
      have c1 := cellsAt K4.out 1
      have c2 := cellsAt K4.out 2
      simp at c0 c1 c2
      go_wp2_with fail
      refine (likeG_same 0 0 [] _ _ _ Row.none_ Row.none_ (by decide)).mono ?_
      rintro e w5 ⟨rfl, hb⟩
      have B5 := Lib.hid (bThen B4.out hb)
      clear hb B4 K4
      go_wp2_with fail
      go_ret
      exact ⟨rfl, B5.out⟩
    · have h1 : 32 ≤ g := by have := HG.out; omega
      go_wp2_with fail
      refine (calive_any _).mono ?_
      rintro e w4 ⟨rfl, hb⟩
      have K4 := Lib.hid (newA hb)
      have B4 := Lib.hid (belA B3.out hb)
      clear hb B3
      have c0 := cellsAt K4.out 0
      have c1 := cellsAt K4.out 1
      have c2 := cellsAt K4.out 2
      simp at c0 c1 c2
      go_wp2_with fail
      refine (likeG_same 0 0 [] _ _ _ Row.none_ Row.none_ (by decide)).mono ?_
      rintro e w5 ⟨rfl, hb⟩
      have B5 := Lib.hid (bThen B4.out hb)
      clear hb B4 K4
      go_wp2_with fail
      go_ret
      exact ⟨rfl, B5.out⟩
  | true =>
    have Hg : 0 ≤ g ∧ g < 32 := by simp at hg; omega
    obtain ⟨g0, g1⟩ := Hg
    have H3 := Lib.hid (fun W => new_any g W true hg)
    have HG := Lib.hid hg
    clear hg
    by_cases hs : s.size ≤ 131072
    · have H1 := Lib.hid (fun W => split_yes g s W g0 g1 hs)
      have H2 := Lib.hid (fun W => rsplit_yes g s W g0 g1 hs)
      have HL := Lib.hid (splitL_le g s hs)
      clear hs hs2
      go_enter Try.func11, Try.ntmps11
      go_wp2_with fail
      refine (H1.out _).mono ?_
      rintro e w1 ⟨v1, rfl, hr, hb⟩
      have R1 := Lib.hid hr
      have B1 := Lib.hid hb
      clear hb hr
      go_wp2_with fail
      refine (H2.out _).mono ?_
      rintro e w2 ⟨v2, rfl, hr, hb⟩
      have R2 := Lib.hid hr
      have R1' := Lib.hid (R1.out.below hb)
      have B2 := Lib.hid (bThen B1.out hb)
      clear hb hr B1 R1
      go_wp2_with fail
      refine (H3.out _).mono ?_
      rintro e w3 ⟨rfl, hb⟩
      have R3 := Lib.hid (R1'.out.below hb)
      have R4 := Lib.hid (R2.out.below hb)
      have B3 := Lib.hid (bThen B2.out hb)
      clear hb R1' R2 B2
      simp only [if_true]
      go_wp2_with fail
      refine (calive_any _).mono ?_
      rintro e w4 ⟨rfl, hb⟩
      have K4 := Lib.hid (newA hb)
      have R5 := Lib.hid ((R3.out.alloc _).below hb)
      have R6 := Lib.hid ((R4.out.alloc _).below hb)
      have B4 := Lib.hid (belA B3.out hb)
      clear hb B3 R3 R4
      go_wp2_with fail
      refine (likeC_same _ _ _ _ R5.out R6.out HL.out).mono ?_
      rintro e w5 ⟨rfl, m, rfl⟩
      have c0 := cellsAt K4.out 0
      have c1 := cellsAt K4.out 1
      have c2 := cellsAt K4.out 2
      simp at c0 c1 c2
      go_wp2_with fail
      refine (likeG_same g 0 [] _ _ _ Row.none_ Row.none_ (by decide)).mono ?_
      rintro e w6 ⟨rfl, hb⟩
      have B6 := Lib.hid (bThen (bDrewN B4.out) hb)
      clear hb B4
      go_wp2_with fail
      go_ret
      exact ⟨rfl, B6.out⟩
    · have hs' : 131072 < s.size := by omega
      have H1 := Lib.hid (fun W => split_long g s W HG.out hs' hs2)
      have H2 := Lib.hid (fun W => rsplit_long g s W HG.out hs' hs2)
      clear hs hs' hs2
      go_enter Try.func11, Try.ntmps11
      go_wp2_with fail
      refine (H1.out _).mono ?_
      rintro e w1 ⟨rfl, hb⟩
      have B1 := Lib.hid hb
      clear hb
      go_wp2_with fail
      refine (H2.out _).mono ?_
      rintro e w2 ⟨rfl, hb⟩
      have B2 := Lib.hid (bThen B1.out hb)
      clear hb B1
      go_wp2_with fail
      refine (H3.out _).mono ?_
      rintro e w3 ⟨rfl, hb⟩
      have B3 := Lib.hid (bThen B2.out hb)
      clear hb B2
      simp only [if_true]
      go_wp2_with fail
      refine (calive_any _).mono ?_
      rintro e w4 ⟨rfl, hb⟩
      have K4 := Lib.hid (newA hb)
      have B4 := Lib.hid (belA B3.out hb)
      clear hb B3
      go_wp2_with fail
      refine (likeC_same [] _ _ _ Row.none_ Row.none_ (by decide)).mono ?_
      rintro e w5 ⟨rfl, m, rfl⟩
      have c0 := cellsAt K4.out 0
      have c1 := cellsAt K4.out 1
      have c2 := cellsAt K4.out 2
      simp at c0 c1 c2
      go_wp2_with fail
      refine (likeG_same g 0 [] _ _ _ Row.none_ Row.none_ (by decide)).mono ?_
      rintro e w6 ⟨rfl, hb⟩
      have B6 := Lib.hid (bThen (bDrewN B4.out) hb)
      clear hb B4
      go_wp2_with fail
      go_ret
      exact ⟨rfl, B6.out⟩
end Go.Proofs.Ytdanfeldbdooeaa
