/-
  WALKS of layer 10: the reference's 'without'.
-/
import Derived.Test.YtdanfeldbdooeaaMarkP1
import Derived.Deep.DeepCutAuto
set_option linter.unusedVariables false
set_option linter.unusedSimpArgs false
namespace Go.Proofs.Ytdanfeldbdooeaa
open Go.RowKit

theorem remH_snoc (l : List Hld) (x : Hld) (no : Int) : remH (l ++ [x]) no = if x.no = no then remH l no else remH l no ++ [x] := by
  unfold remH
  rw [List.filter_append]
  by_cases h : x.no = no
  · rw [if_pos h, List.filter_cons, if_neg (by simpa using h)]; simp
  · rw [if_neg h, List.filter_cons, if_pos (by simpa using h)]; simp
theorem hasH_snoc (l : List Hld) (x : Hld) (no : Int) : hasH (l ++ [x]) no = (hasH l no || (x.no == no)) := by
  unfold hasH
  rw [List.any_append]
  simp
theorem remH_le (l : List Hld) (no : Int) : (remH l no).length ≤ l.length := List.length_filter_le _ _
def WoRel (lh : List Hld) (no : Int) (w : World) (u b i : Value) (wr : World) : Prop :=
  ∃ k : Nat, k ≤ lh.length ∧ i = .int .i64 k ∧ b = .bool (hasH (lh.take k) no) ∧ wr.ownsRow w.heap.size 47 2 u (remH (lh.take k) no).length ((remH (lh.take k) no).flatMap Hld.cs) ∧ Below w.heap.size w wr
def WoTo (lh : List Hld) (no : Int) (w : World) (e : Ending) (w' : World) : Prop :=
  ∃ v, e = .returned (.tuple #[v, .bool (hasH lh no)]) ∧ w'.ownsRow w.heap.size 47 2 v (remH lh no).length ((remH lh no).flatMap Hld.cs) ∧ Below w.heap.size w w'
set_option maxRecDepth 100000 in
set_option maxHeartbeats 4000000 in
theorem without_any (lh : List Hld) (no : Int) (v : Value) (w : World) (h1 : Row Hld.cs 2 w v lh) (hl : lh.length ≤ 1000000) :
    Calls Try.prog 73 #[v, .int .i64 no] w (WoTo lh no w) := by
  have R1 := Lib.hid h1
  obtain ⟨A, c, rfl, -⟩ := h1
  obtain ⟨n, hn⟩ : ∃ n, lh.length = n := ⟨_, rfl⟩
  have HN := Lib.hid hn
  rw [hn] at hl R1 ⊢
  clear hn
  obtain ⟨iH, hi, hi0, hi1, hi2⟩ := info_parts info_hd
  have HI := Lib.hid hi
  have HI0 := Lib.hid hi0
  have HI1 := Lib.hid hi1
  have HI2 := Lib.hid hi2
  clear hi hi0 hi1 hi2
  go_enter Try.func73, Try.ntmps73
  go_wp2_with fail
  go_loopw [6, 7, 13] (fun u b i wr => WoRel lh no w u b i wr) (fun _ _ i _ => n - (intOf i).toNat)
  case atStart => exact ⟨0, Nat.zero_le _, rfl, rfl, by simpa [remH] using own_empty w w.heap.size 47 2 (Nat.le_refl _), bel_alloc (Below.refl _ _) _⟩
  case round =>
    obtain ⟨k, hk, rfl, rfl, hown, hbel⟩ := hrel
    rw [HN.out] at hk
    have HO := Lib.hid hown
    have HB := Lib.hid hbel
    clear hown hbel
    have hrl := remH_le (lh.take k) no
    have hrl2 : (lh.take k).length ≤ k := by rw [List.length_take]; omega
    obtain ⟨m, hm⟩ : ∃ m, (remH (lh.take k) no).length = m := ⟨_, rfl⟩
    have hmk : m ≤ k := by omega
    have HM := Lib.hid hm
    have HO2 := HO.out
    rw [hm] at HO2
    have HO1 := Lib.hid HO2
    obtain ⟨Au, cu, rfl⟩ := own_slice HO2
    clear hm HO HO2 hrl hrl2
    obtain ⟨bk, hbk⟩ : ∃ b, hasH (lh.take k) no = b := ⟨_, rfl⟩
    have HBK := Lib.hid hbk
    rw [hbk]
    clear hbk
    by_cases hlt : k < n
    · obtain ⟨y, hy⟩ : ∃ y, lh[k]? = some y := ⟨_, List.getElem?_eq_getElem (by rw [HN.out]; exact hlt)⟩
      have HY := Lib.hid hy
      obtain ⟨b', o', c', e', hc', hb', hX⟩ := (R1.out.below HB.out).at_ hy
      injection e' with e1 e2 e3
      clear e2
      subst e1 e3
      have c0 := hX 0 _ rfl
      have c1 := hX 1 _ rfl
      clear hX hy
      obtain ⟨y0, y1⟩ := y
      simp only [Nat.add_zero] at c0 c1
      have HT := Lib.hid (show lh.take (k + 1) = lh.take k ++ [⟨y0, y1⟩] by rw [List.take_add_one, HY.out]; rfl)
      by_cases hno : y0 = no
      · subst hno
        have tN1 : (y0 == y0) = true := by simp
        have tN2 : decide (y0 = y0) = true := by simp
        have BA := Lib.hid (bel_alloc HB.out (.cells #[.int .i64 y0, .int .i64 y1] 47))
        have OA := Lib.hid (HO1.out.alloc (.cells #[.int .i64 y0, .int .i64 y1] 47))
        go_wp2_with fail
        go_roundw
        case rel =>
          refine ⟨k + 1, by rw [HN.out]; omega, by go_num, ?_, ?_, BA.out⟩
          · rw [HT.out, hasH_snoc, show ((⟨y0, y1⟩ : Hld).no == y0) = true from tN1, Bool.or_true]
          · rw [HT.out, remH_snoc, if_pos rfl, HM.out]
            exact OA.out
        case measure => simp [intOf]; omega
      · have tN1 : (y0 == no) = false := by simpa using hno
        have tN2 : decide (y0 = no) = false := by simpa using hno
        go_upto_region 8 with fail
        clear c0 c1
        obtain ⟨W4, hW4⟩ : ∃ W4, W4 = wr.alloc (.cells #[.int .i64 y0, .int .i64 y1] 47) := ⟨_, rfl⟩
        rw [← hW4]
        have X4 := Lib.hid (show W4.heap[wr.heap.size]? = some (.cells #[.int .i64 y0, .int .i64 y1] 47 (0, 0)) by rw [hW4]; exact heap_at _ _ _ rfl)
        have B4 := Lib.hid (show Below w.heap.size w W4 by rw [hW4]; exact bel_alloc HB.out _)
        have O4 := Lib.hid (show W4.ownsRow w.heap.size 47 2 (.slice Au m cu) m ((remH (lh.take k) no).flatMap Hld.cs) by rw [hW4]; exact HO1.out.alloc _)
        clear hW4 HB HO1
        have xy0 := cellsAt X4.out 0
        have xy1 := cellsAt X4.out 1
        have zy := blk_lt X4.out
        simp at xy0 xy1
        go_wp2_with (at_builtin; refine wpList_push _ rfl _ _ 23 rfl w.heap.size 47 iH (.agg #[.int .i64 0, .int .i64 0]) 2 16 Try.underlying23 HI.out HI0.out HI1.out HI2.out rfl (by decide) _ _ _ rfl O4.out #[.int .i64 y0, .int .i64 y1] 47 rfl rfl (by intro u hu; simp at hu; rcases hu with rfl | rfl <;> rfl) (by unfold maxLen; omega) (by omega) B4.out.size ?_)
        intro v5 W5 hown5 BG _
        have O5 := Lib.hid hown5
        have B5 := Lib.hid (B4.out.trans BG)
        clear hown5 BG xy0 xy1 zy X4 O4 B4
        go_wp2_with fail
        go_roundw
        case rel =>
          refine ⟨k + 1, by rw [HN.out]; omega, by go_num, ?_, ?_, B5.out⟩
          · rw [HT.out, hasH_snoc, HBK.out, show ((⟨y0, y1⟩ : Hld).no == no) = false from tN1, Bool.or_false]
          · rw [HT.out, remH_snoc, if_neg (show ¬ y0 = no from hno), List.length_append, List.flatMap_append, HM.out]
            exact O5.out
        case measure => simp [intOf]; omega
    · obtain rfl : k = n := by omega
      go_wp2_with fail
      have hk2 : lh.take k = lh := List.take_of_length_le (by rw [HN.out]; exact Nat.le_refl _)
      go_ret2
      have O2 := HO1.out
      have h2 := HBK.out
      have h3 := HM.out
      rw [hk2] at O2 h2 h3
      exact ⟨.slice Au m cu, by rw [h2]; rfl, by rw [h3]; exact O2, HB.out⟩
end Go.Proofs.Ytdanfeldbdooeaa
