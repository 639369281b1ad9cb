/-
  WALKS of layer 20: the reference's Split.
-/
import Derived.Test.YtdanfeldbdooeaaChunkW2
set_option linter.unusedVariables false
set_option linter.unusedSimpArgs false
namespace Go.Proofs.Ytdanfeldbdooeaa
open Go.RowKit

def ck0 (g : Int) (s : ByteArray) (i : Nat) : Ck := ⟨g, i, 0, s.extract (256 * i) (256 * i + 256)⟩
/-- The first k chunks with their number of chunks, the others without. -/
def ckHalf (g : Int) (n k : Nat) (s : ByteArray) (i : Nat) : Ck := if i < k then ckOf g n s i else ck0 g s i
def RsRel (g : Int) (s : ByteArray) (w : World) (v r : Value) (wr : World) : Prop :=
  ∃ k : Nat, k < nOf s ∧ r = .string (restAt s k) ∧ wr.ownsRow w.heap.size 56 4 v k (((List.range k).map (ck0 g s)).flatMap Ck.cs) ∧ Below w.heap.size w wr ∧ (∃ A c, v = .slice A k c)
def RfRel (g : Int) (s : ByteArray) (w : World) (v i : Value) (wr : World) : Prop :=
  ∃ k : Nat, k ≤ nOf s ∧ i = .int .i64 k ∧ wr.ownsRow w.heap.size 56 4 v (nOf s) (((List.range (nOf s)).map (ckHalf g (nOf s) k s)).flatMap Ck.cs) ∧ Below w.heap.size w wr
theorem half_set (g : Int) (n q : Nat) (s : ByteArray) (hq : q < n) : ((List.range n).map (ckHalf g n q s)).set q (ckOf g n s q) = (List.range n).map (ckHalf g n (q + 1) s) := by
  apply List.ext_getElem?
  intro i
  rw [List.getElem?_set, List.getElem?_map, List.getElem?_map]
  by_cases h : q = i
  · subst h
    rw [if_pos rfl, if_pos (by simpa using hq), List.getElem?_range hq]
    simp [ckHalf]
  · rw [if_neg h]
    by_cases hi : i < n
    · rw [List.getElem?_range hi]
      simp only [Option.map_some, ckHalf]
      by_cases h1 : i < q
      · rw [if_pos h1, if_pos (by omega)]
      · rw [if_neg h1, if_neg (by omega)]
    · rw [List.getElem?_eq_none (by simp; omega)]; rfl
theorem half_all (g : Int) (n : Nat) (s : ByteArray) : (List.range n).map (ckHalf g n n s) = (List.range n).map (ckOf g n s) := by
  apply List.map_congr_left
  intro i hi
  rw [List.mem_range] at hi
  simp [ckHalf, hi]
set_option maxHeartbeats 2000000 in
set_option maxRecDepth 100000 in
theorem rsplit_yes (g : Int) (s : ByteArray) (w : World) (h0 : 0 ≤ g) (h1 : g < 32) (hs : s.size ≤ 131072) :
    Calls Try.prog 34 #[.int .i64 g, .string s] w (SplitTo g s w) := by
  obtain ⟨i0, hi, hz0, hz1, hz2⟩ := info_parts info_ck
  have HI := Lib.hid hi
  have HZ0 := Lib.hid hz0
  have HZ1 := Lib.hid hz1
  have HZ2 := Lib.hid hz2
  clear hi hz0 hz1 hz2
  have HG := Lib.hid (fun W => rgroup_any g W true (by simp; omega))
  have hn : ∃ n : Nat, nOf s = n ∧ 1 ≤ n ∧ n ≤ 512 ∧ n = max ((s.size + 255) / 256) 1 := ⟨_, rfl, by unfold nOf; omega, by unfold nOf; omega, rfl⟩
  obtain ⟨n, hn, n1, n2, n3⟩ := hn
  have HN := Lib.hid hn
  have HN3 := Lib.hid n3
  clear hn n3
  go_enter Try.func34, Try.ntmps34
  go_wp2_with fail
  refine (HG.out _).mono ?_
  rintro e w' ⟨rfl, rfl⟩
  go_wp2_with fail
  go_loopw [6, 7] (fun v r wr => RsRel g s w v r wr) (fun _ r _ => (match r with | .string x => x.size | _ => 0))
  case atStart => exact ⟨0, by unfold nOf; omega, by rw [show restAt s 0 = s from ext_all s], own_empty _ _ _ _ (Nat.le_refl _), bel_alloc (Below.refl _ _) _, _, _, rfl⟩
  case round =>
    obtain ⟨k, hk, rfl, hown, hbel, A, c, rfl⟩ := hrel
    rw [HN.out] at hk
    have h256 : 256 * k ≤ s.size := by have := HN3.out; omega
    obtain ⟨R, hR⟩ : ∃ R, restAt s k = R := ⟨_, rfl⟩
    have hRz : R.size = s.size - 256 * k := by rw [← hR]; unfold restAt; rw [ByteArray.size_extract]; omega
    have HP := rest_part s k h256
    have HX := (rest_next s k h256).trans (rest_nx s k)
    rw [hR] at HP HX ⊢
    have HR := Lib.hid hR
    have HRz := Lib.hid hRz
    have HO := Lib.hid hown
    have HW := Lib.hid hbel
    have hsz := hbel.size
    clear hR hRz hown hbel
    by_cases hlt : 256 < R.size
    · rw [Nat.min_eq_right (by omega)] at HP HX
      have HP' := Lib.hid HP
      have HX' := Lib.hid HX
      have hRs : R.size ≤ 131072 := by have := HRz.out; omega
      clear HP HX
      go_wp2_with (at_builtin; refine wpList_append_own _ rfl _ _ 50 rfl w.heap.size 56 i0 (.agg #[.int .i64 0, .int .i64 0, .int .i64 0, .string ⟨#[]⟩]) 4 40 Try.underlying50 HI.out HZ0.out HZ1.out HZ2.out rfl (by decide) _ _ _ rfl (HO.out.alloc _) ⟨wr.heap.size, 0, none⟩ 1 1 [.int .i64 g, .int .i64 k, .int .i64 0, .string (R.extract 0 256)] rfl rfl ?c1 ?c2 ?c3 ?c4 ?c5 ?_)
      case c1 =>
        intro j u hj
        match j, hj with
        | 0, hj => simp at hj; subst hj; simp [Addr.add]
        | 1, hj => simp at hj; subst hj; simp [Addr.add]
        | 2, hj => simp at hj; subst hj; simp [Addr.add]
        | 3, hj => simp at hj; subst hj; simp [Addr.add]
      case c2 => intro u hu; simp at hu; rcases hu with rfl | rfl | rfl | rfl <;> rfl
      case c3 => unfold maxLen; omega
      case c4 => omega
      case c5 => simp; omega
      intro v' W3 hown3 hgrow3 _
      have HO3 := Lib.hid hown3
      have HG3 := Lib.hid hgrow3
      have HW3 := Lib.hid ((bel_alloc HW.out (.cells #[.int .i64 g, .int .i64 k, .int .i64 0, .string (R.extract 0 256)] 56)).grown hgrow3 (by simp; omega) (fun q hq => (HO.out.lt _ hq).1))
      obtain ⟨b3, cap3, rfl, hb3, hl3, hc3⟩ := own_form hown3 (by omega)
      have HB3 := Lib.hid hb3
      clear hown3 hgrow3 hb3 hl3 hc3
      go_wp2_with fail
      go_roundw
      case rel =>
        refine ⟨k + 1, by have := HRz.out; have := HN3.out; rw [HN.out]; omega, by rw [HX'.out], ?_, HW3.out, _, _, rfl⟩
        have e : ((List.range (k + 1)).map (ck0 g s)).flatMap Ck.cs = ((List.range k).map (ck0 g s)).flatMap Ck.cs ++ [.int .i64 g, .int .i64 k, .int .i64 0, .string (R.extract 0 256)] := by
          rw [List.range_succ, List.map_append, List.flatMap_append, HP'.out]; rfl
        rw [e]
        exact HO3.out
      case measure => simp [ByteArray.size_extract]; omega
    · have hkn : k + 1 = n := by have := HRz.out; have := HN3.out; omega
      have hlast : R = s.extract (256 * k) (256 * k + 256) := by rw [← HR.out, ext_clamp s _ (256 * k + 256) (by have := HRz.out; omega)]; rfl
      have HL := Lib.hid hlast
      have hRs : R.size ≤ 256 := by omega
      clear HP HX hlast
      have HKN := Lib.hid hkn
      clear hkn
      go_wp2_with (at_builtin; refine wpList_append_own _ rfl _ _ 50 rfl w.heap.size 56 i0 (.agg #[.int .i64 0, .int .i64 0, .int .i64 0, .string ⟨#[]⟩]) 4 40 Try.underlying50 HI.out HZ0.out HZ1.out HZ2.out rfl (by decide) _ _ _ rfl (HO.out.alloc _) ⟨wr.heap.size, 0, none⟩ 1 1 [.int .i64 g, .int .i64 k, .int .i64 0, .string (R)] rfl rfl ?c1 ?c2 ?c3 ?c4 ?c5 ?_)
      case c1 =>
        intro j u hj
        match j, hj with
        | 0, hj => simp at hj; subst hj; simp [Addr.add]
        | 1, hj => simp at hj; subst hj; simp [Addr.add]
        | 2, hj => simp at hj; subst hj; simp [Addr.add]
        | 3, hj => simp at hj; subst hj; simp [Addr.add]
      case c2 => intro u hu; simp at hu; rcases hu with rfl | rfl | rfl | rfl <;> rfl
      case c3 => unfold maxLen; omega
      case c4 => omega
      case c5 => simp; omega
      intro v' W3 hown3 hgrow3 _
      have HO3 := Lib.hid hown3
      have HG3 := Lib.hid hgrow3
      have HW3 := Lib.hid ((bel_alloc HW.out (.cells #[.int .i64 g, .int .i64 k, .int .i64 0, .string (R)] 56)).grown hgrow3 (by simp; omega) (fun q hq => (HO.out.lt _ hq).1))
      obtain ⟨b3, cap3, rfl, hb3, hl3, hc3⟩ := own_form hown3 (by omega)
      have HB3 := Lib.hid hb3
      clear hown3 hgrow3 hb3 hl3 hc3
      go_wp2_with fail
      go_loopw [41] (fun i W => RfRel g s w (.slice (some ⟨b3, 0, none⟩) (k + 1) cap3) i W) (fun i _ => n - (intOf i).toNat)
      case atStart =>
        refine ⟨0, Nat.zero_le _, rfl, ?_, HW3.out⟩
        rw [HN.out, ← HKN.out]
        have e : ((List.range (k + 1)).map (ckHalf g (k + 1) 0 s)).flatMap Ck.cs = ((List.range k).map (ck0 g s)).flatMap Ck.cs ++ [.int .i64 g, .int .i64 k, .int .i64 0, .string R] := by
          rw [show ckHalf g (k + 1) 0 s = ck0 g s from funext fun i => by simp [ckHalf], List.range_succ, List.map_append, List.flatMap_append]
          rw [HL.out]; rfl
        rw [e]
        exact HO3.out
      case round =>
        obtain ⟨q, hq, rfl, hown, hbel⟩ := hrel
        rw [HN.out] at hq hown
        rw [← HKN.out] at hq hown
        by_cases hlt2 : q < k + 1
        · have hi : ((List.range (k + 1)).map (ckHalf g (k + 1) q s))[q]? = some (ck0 g s q) := by
            rw [List.getElem?_map, List.getElem?_range hlt2]; simp [ckHalf]
          have hc := hown.cellAt (q * 4 + 2) (by omega)
          rw [flat_at Ck.cs_len hi rfl] at hc
          have hf := hown.frozenAt (q * 4 + 2)
          have HO5 := Lib.hid hown
          have HW5 := Lib.hid hbel
          have HI5 := Lib.hid hi
          clear hown hbel hi
          go_wp2_with fail
          go_roundw
          case rel =>
            refine ⟨q + 1, by rw [HN.out, ← HKN.out]; omega, by go_num, ?_, HW5.out.setCell (p := ⟨b3, q * 4 + 2, none⟩) HB3.out _⟩
            rw [HN.out, ← HKN.out]
            have h1 := (HO5.out.stored (q * 4 + 2) (.int .i64 (((k + 1 : Nat) : Int)))).1
            rw [flat_set Ck.cs_len (x' := ckOf g (k + 1) s q) HI5.out (by decide) rfl, half_set g (k + 1) q s hlt2] at h1
            exact h1
          case measure => simp [intOf]; omega
        · have hqk : q = k + 1 := by omega
          subst hqk
          rw [half_all] at hown
          have HO5 := Lib.hid hown
          have HW5 := Lib.hid hbel
          clear hown hbel
          go_wp2_with fail
          go_ret2
          exact ⟨_, rfl, Row.of_own Ck.cs_len (by unfold splitL; rw [HN.out, ← HKN.out]; exact HO5.out) (by rw [splitL_len, HN.out, ← HKN.out]), HW5.out⟩
end Go.Proofs.Ytdanfeldbdooeaa
