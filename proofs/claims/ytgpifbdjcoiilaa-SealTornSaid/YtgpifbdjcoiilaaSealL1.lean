/-
  WALKS of the laws of layer 3: SealRows.
-/
import Derived.Test.YtgpifbdjcoiilaaSealW6
namespace Go.Proofs.Ytgpifbdjcoiilaa
open Go.RowKit

theorem allF_len (s : ByteArray) : ∀ (f p : Nat), p ≤ s.size → (allF s f p).1.length + p ≤ s.size ∧ p ≤ (allF s f p).2.1 ∧ (allF s f p).2.1 ≤ s.size
  | 0, p, h => by simp [allF]; omega
  | f + 1, p, h => by
    unfold allF
    by_cases h1 : p = s.size
    · rw [if_pos h1]; simp; omega
    · rw [if_neg h1]
      obtain ⟨⟨x, m, e⟩, hr⟩ : ∃ r, sgR s p = r := ⟨_, rfl⟩
      rw [hr]
      simp only
      by_cases he : e = 0
      · subst he
        rw [if_neg (by simp)]
        obtain ⟨q, t, hq, rfl, hqt, hts⟩ := sgR_facts hr
        have := allF_len s f t hts
        rw [Int.toNat_natCast]
        simp only [List.length_cons]
        omega
      · rw [if_pos he]; simp; omega

set_option maxHeartbeats 1000000 in
theorem srows_walk (s : ByteArray) (w : World) (hs : s.size ≤ 9223372036854775807) :
    Calls Try.prog 12 #[.string s] w fun e w' => e = .returned (.bool true) ∧ Below w.heap.size w w' := by
  have hS := shortS_size 10000 s
  have Hsh := Lib.hid (sshort_any s w hs)
  obtain ⟨S, hSe⟩ : ∃ S, shortS 10000 s = S := ⟨_, rfl⟩
  rw [hSe] at hS Hsh
  clear hSe
  have hlen := (allF_len S (S.size + 1) 0 (by omega)).1
  obtain ⟨⟨L, p, e0⟩, hr⟩ : ∃ r, allR S = r := ⟨_, rfl⟩
  have hL : L.length ≤ 10000 := by unfold allR at hr; rw [hr] at hlen; simp at hlen; omega
  have Hr := Lib.hid hr
  clear hr hlen
  have h0 : ((crc (ByteArray.mk #[]).data.toList : Int) != 0) = true := by decide
  go_enter Try.func12, Try.ntmps12
  go_wp2_with fail
  refine (Hsh.out).mono ?_
  rintro e w0 ⟨rfl, rfl⟩
  go_wp2_with fail
  refine (all_any S _ (by omega)).mono ?_
  rintro e w1 hpost
  unfold AllPost at hpost
  rw [Hr.out] at hpost
  obtain ⟨va, rfl, hown1, hb1⟩ := hpost
  have Hown1 := Lib.hid hown1
  clear hown1
  go_wp2_with fail
  refine (rall_any S _ (by omega)).mono ?_
  rintro e w2 hpost
  unfold AllPost at hpost
  rw [Hr.out] at hpost
  obtain ⟨vb, rfl, hown2, hb2⟩ := hpost
  have Hown2 := Lib.hid hown2
  clear hown2
  go_wp2_with fail
  refine (like_same _ va vb L ((IsStrs.of_own Hown1.out).below hb2) (IsStrs.of_own Hown2.out) (by omega)).mono ?_
  rintro e w3 ⟨rfl, hb3⟩
  go_wp2_with fail
  refine (sum_any ⟨#[]⟩ _ (by decide)).mono ?_
  rintro e w0 ⟨rfl, rfl⟩
  go_wp2_with fail
  go_ret
  exact ⟨rfl, Below.then (Below.then hb1 hb2) hb3⟩
end Go.Proofs.Ytgpifbdjcoiilaa
