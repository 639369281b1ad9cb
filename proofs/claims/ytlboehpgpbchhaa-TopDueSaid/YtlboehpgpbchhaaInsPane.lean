/-
  WALKS: slices.Insert of one element and slices.Delete of one, at a row of one's own of api.Pane.
-/
import Derived.Test.YtlboehpgpbchhaaRowsIns
import Derived.Deep.RegionLaw
import Derived.Laws.MakeOwn
import Derived.Lib.AppendZeros
set_option linter.unusedVariables false
set_option linter.unusedSimpArgs false
namespace Go.Proofs.Ytlboehpgpbchhaa
open Go.RowKit

theorem pninfo : (Try.prog.info? 59).map (fun i => (i.zero, i.size, i.bytes)) = some (some (Value.agg #[.int .i64 0, .int .i64 0, .string ⟨#[]⟩, .int .i64 0, .int .i64 0, .int .i64 0]), 6, 56) := by kernel_rfl
theorem pnsizeOf (w : World) : (Go.sizeOf 59).run Try.prog w = .ok 6 w := by
  obtain ⟨i0, hi, _, h1, _⟩ := info_parts pninfo
  simp [sizeOf, typeInfo, hi, h1]
theorem pnoverlaps (vb g o lb cb : Nat) (w : World) (hne : vb ≠ g) (xc cur : Array Value) (TX : TypeId) (hv : w.heap[vb]? = some (.cells xc TX (0, 0))) (hg : w.heap[g]? = some (.cells cur 59 (0, 0))) (hc : cur.size ≠ 0) :
    (callFunc 122 #[.slice (some ⟨vb, 0, none⟩) 1 1, .slice (some ⟨g, o, none⟩) lb cb]).run Try.prog w = .ok (.value (.bool false)) w := by
  rw [run_callFunc_extern Try.func122 (by kernel_rfl) (by kernel_rfl) (by kernel_rfl) (e := Extern.SlicesOverlaps.overlaps #[47, 47] #[4]) (by kernel_rfl),
    Lib.run_overlaps_apart w 47 4 59 Try.underlying47 6 pnsizeOf ⟨vb, 0, none⟩ ⟨g, o, none⟩ 1 1 lb cb hne TX 59 xc.size cur.size (by simp [World.shape?, hv]) (by simp [World.shape?, hg]) hc (frozAt hv 0) (frozAt hv _)]
  rfl
/-- The cells behind the first copy, and behind the second. -/
def pnc1 (L : List Value) (n i : Nat) : Array Value := (L.take (i * 6 + 6) ++ (L.take (n * 6)).drop (i * 6) ++ L.drop (i * 6 + 6 + ((L.take (n * 6)).drop (i * 6)).length)).toArray
def pnc2 (L xc : List Value) (i : Nat) : Array Value := (L.take (i * 6) ++ xc ++ L.drop (i * 6 + xc.length)).toArray
set_option maxHeartbeats 4000000 in
set_option maxRecDepth 100000 in
theorem pnshift (g n c i vb : Nat) (cur : Array Value) (xc : List Value) (TX : TypeId) (w : World) (hi : i < n) (hroom : n + 1 ≤ c) (hc63 : c ≤ 9223372036854775807) (hvb : vb ≠ g)
    (hg : w.heap[g]? = some (.cells cur 59 (0, 0))) (hcs : cur.size = c * 6) (hv : w.heap[vb]? = some (.cells xc.toArray TX (0, 0))) (hxl : xc.length = 6) (h1c : ∀ u ∈ cur.toList.take (n * 6), u.oneCell' = true) (h1x : ∀ u ∈ xc, u.oneCell' = true) :
    Calls Try.prog 117 #[.slice (some ⟨g, 0, none⟩) n c, .int .i64 i, .slice (some ⟨vb, 0, none⟩) 1 1] w fun e w' =>
      e = .returned (.slice (some ⟨g, 0, none⟩) (n + 1) c) ∧ w' = (w.drew.setRow g (pnc1 cur.toList n i)).setRow g (pnc2 (pnc1 cur.toList n i).toList xc i) := by
  obtain ⟨i0, hi0, hz0, hz1, hz2⟩ := info_parts pninfo
  have hov : ∀ o lb cb, (callFunc 122 #[.slice (some ⟨vb, 0, none⟩) 1 1, .slice (some ⟨g, o, none⟩) lb cb]).run Try.prog w = .ok (.value (.bool false)) w := fun o lb cb => pnoverlaps vb g o lb cb w hvb _ _ TX hv hg (by omega)
  have lc : cur.toList.length = c * 6 := by simpa using hcs
  have lt : ((cur.toList.take (n * 6)).drop (i * 6)).length = (n - i) * 6 := by rw [List.length_drop, List.length_take, lc, Nat.sub_mul]; omega
  have hfit : i * 6 + 6 + ((cur.toList.take (n * 6)).drop (i * 6)).length ≤ cur.size := by rw [lt, hcs, Nat.sub_mul]; omega
  have hcp1 : ∀ ty dc sc, (Builtin.copy_ #[47, 47] ty #[.slice (some ⟨g, (i + 1) * 6, none⟩) (n - i) dc, .slice (some ⟨g, i * 6, none⟩) (n + 1 - i) sc]).run Try.prog w.drew = .ok (goInt ((n - i : Nat) : Int)) (w.drew.setRow g (pnc1 cur.toList n i)) := fun ty dc sc => by
    rw [show (i + 1) * 6 = i * 6 + 6 by omega]
    exact run_copy_rowK w.drew 47 47 ty 59 i0 g (i * 6 + 6) _ dc ⟨g, i * 6, none⟩ _ sc cur 59 ((cur.toList.take (n * 6)).drop (i * 6)) (n - i) Try.underlying47 hi0 (by simp only [Nat.min_def]; split <;> omega) (by rw [lt, hz1]) hg
      (fun j v hj => by
        rw [add_at]
        rw [List.getElem?_drop, List.getElem?_take] at hj
        split at hj
        · exact (cellsAt hg _).trans (by simpa using hj)
        · cases hj) hfit (fun v hv => h1c v (List.mem_of_mem_drop hv))
  have hg1 : (w.drew.setRow g (pnc1 cur.toList n i)).heap[g]? = some (.cells (pnc1 cur.toList n i) 59 (0, 0)) := setRow_heap _ g cur _ _ _ hg
  have hv1 : (w.drew.setRow g (pnc1 cur.toList n i)).heap[vb]? = some (.cells xc.toArray TX (0, 0)) := (setRow_other _ g vb _ hvb).trans hv
  have hs1 : (pnc1 cur.toList n i).size = cur.size := by
    unfold pnc1
    have := splice_len cur.toList (i * 6 + 6) ((cur.toList.take (n * 6)).drop (i * 6)) (by simpa using hfit)
    simpa using this
  obtain ⟨W1, hW1⟩ : ∃ W1, W1 = w.drew.setRow g (pnc1 cur.toList n i) := ⟨_, rfl⟩
  obtain ⟨C1, hC1⟩ : ∃ C1, C1 = pnc1 cur.toList n i := ⟨_, rfl⟩
  rw [← hW1] at hcp1 hg1 hv1
  rw [← hC1] at hg1 hs1
  have hcp2 : ∀ ty dc, (Builtin.copy_ #[47, 47] ty #[.slice (some ⟨g, i * 6, none⟩) (n + 1 - i) dc, .slice (some ⟨vb, 0, none⟩) 1 1]).run Try.prog W1 = .ok (goInt ((1 : Nat) : Int)) (W1.setRow g (pnc2 C1.toList xc i)) := fun ty dc => by
    exact run_copy_rowK W1 47 47 ty 59 i0 g (i * 6) _ dc ⟨vb, 0, none⟩ _ 1 C1 59 xc 1 Try.underlying47 hi0 (by simp only [Nat.min_def]; split <;> omega) (by rw [hxl, hz1]) hg1
      (fun j v hj => by
        rw [add_at]
        exact (cellsAt hv1 _).trans (by simpa using hj)) (by rw [hs1, hcs, hxl]; omega) h1x
  have HW := Lib.hid hW1
  have HC := Lib.hid hC1
  have H1 := Lib.hid hcp1
  have H2 := Lib.hid hcp2
  have HI0 := Lib.hid hi0
  clear hg hv hg1 hv1 hW1 hC1 hcp1 hcp2 h1c h1x lt lc hfit hs1 hcs hi0
  have hw1 : IntKind.i64.wrap ((i : Int) + 1) = (i : Int) + 1 := by rw [IntKind.wrap_i64]; omega
  have htn : ((i : Int) + 1).toNat = i + 1 := by omega
  have hb1 : (0 : Int) ≤ (i : Int) + 1 := by omega
  have hb2 : ¬ (c = i + 1) := by omega
  have hb3 : (i : Int) ≤ (n : Int) + 1 := by omega
  have hb4 : ¬ (c = i) := by omega
  have hin : i ≤ n := by omega
  go_enter Try.func117, Try.ntmps117
  go_wp2_with (simp only [hov])
  have q1 := H1.out
  go_region
  clear q1
  have q2 := H2.out
  go_wp2_with fail
  go_ret
  exact ⟨rfl, by rw [HC.out, HW.out]⟩
theorem pnzlen (n : Nat) : (Builtin.zeroCells (Value.agg #[.int .i64 0, .int .i64 0, .string ⟨#[]⟩, .int .i64 0, .int .i64 0, .int .i64 0]).cells n).toList.length = n * 6 := by
  rw [Array.length_toList, size_zeroCells]
  rfl
theorem pnzone (n : Nat) : ∀ u ∈ (Builtin.zeroCells (Value.agg #[.int .i64 0, .int .i64 0, .string ⟨#[]⟩, .int .i64 0, .int .i64 0, .int .i64 0]).cells n).toList, u.oneCell' = true := by
  intro u hu
  simp only [Builtin.zeroCells, Array.toList_map, List.mem_map] at hu
  obtain ⟨j, -, rfl⟩ := hu
  show ((#[.int .i64 0, .int .i64 0, .string ⟨#[]⟩, .int .i64 0, .int .i64 0, .int .i64 0] : Array Value)[j % 6]!).oneCell' = true
  have h := Nat.mod_lt j (show 0 < 6 by decide)
  generalize j % 6 = q at h ⊢
  match q, h with
  | 0, _ => rfl
  | 1, _ => rfl
  | 2, _ => rfl
  | 3, _ => rfl
  | 4, _ => rfl
  | 5, _ => rfl
set_option maxHeartbeats 4000000 in
set_option maxRecDepth 100000 in
theorem pnend (base n vb : Nat) (v : Value) (xs xc : List Value) (TX : TypeId) (w : World) (hown : w.ownsRow base 59 6 v n xs) (hbase : base ≤ w.heap.size) (hn : n ≤ 1000000)
    (hv : w.heap[vb]? = some (.cells xc.toArray TX (0, 0))) (hxl : xc.length = 6) (h1x : ∀ u ∈ xc, u.oneCell' = true) :
    Calls Try.prog 117 #[v, .int .i64 n, .slice (some ⟨vb, 0, none⟩) 1 1] w fun e w' =>
      ∃ v', e = .returned v' ∧ w'.ownsRow base 59 6 v' (n + 1) (xs ++ xc) ∧ w.grownBy w' v.ownBlock := by
  obtain ⟨i0, hi0, hz0, hz1, hz2⟩ := info_parts pninfo
  have HI := Lib.hid hi0
  have HZ0 := Lib.hid hz0
  have HZ1 := Lib.hid hz1
  have HZ2 := Lib.hid hz2
  have hsrc := Lib.hid (show ∀ j u, xc[j]? = some u → w.cell? ((⟨vb, 0, none⟩ : Addr).add j) = some u from fun j u hj => by rw [add_at]; exact (cellsAt hv _).trans (by simpa using hj))
  have HX := Lib.hid h1x
  have HL := Lib.hid hxl
  have HO := Lib.hid hown
  have HB := Lib.hid hbase
  clear hi0 hz0 hz1 hz2 hv h1x hxl hbase
  rcases hown.2 with ⟨rfl, rfl⟩ | ⟨g, c, cur, rfl, -, -, hnc, hcm, -⟩
  · clear hown
    go_enter Try.func117, Try.ntmps117
    go_wp2_with (at_builtin; refine wpList_append_own _ rfl _ _ 47 rfl base 59 i0 (Value.agg #[.int .i64 0, .int .i64 0, .string ⟨#[]⟩, .int .i64 0, .int .i64 0, .int .i64 0]) 6 56 Try.underlying47 HI.out HZ0.out HZ1.out HZ2.out rfl (by decide) _ _ _ rfl HO.out ⟨vb, 0, none⟩ 1 1 xc rfl (by rw [HL.out]) hsrc.out HX.out (by unfold maxLen; omega) (by omega) HB.out ?_)
    intro v5 w5 hown5 hgrow5 _
    go_wp2_with fail
    go_ret
    exact ⟨_, rfl, hown5, hgrow5⟩
  · clear hown
    unfold maxLen at hcm
    by_cases hcn : c = n
    all_goals
      go_enter Try.func117, Try.ntmps117
      go_wp2_with (at_builtin; refine wpList_append_own _ rfl _ _ 47 rfl base 59 i0 (Value.agg #[.int .i64 0, .int .i64 0, .string ⟨#[]⟩, .int .i64 0, .int .i64 0, .int .i64 0]) 6 56 Try.underlying47 HI.out HZ0.out HZ1.out HZ2.out rfl (by decide) _ _ _ rfl HO.out ⟨vb, 0, none⟩ 1 1 xc rfl (by rw [HL.out]) hsrc.out HX.out (by unfold maxLen; omega) (by omega) HB.out ?_)
      intro v5 w5 hown5 hgrow5 _
      go_wp2_with fail
      go_ret
      exact ⟨_, rfl, hown5, hgrow5⟩
set_option maxHeartbeats 4000000 in
set_option maxRecDepth 100000 in
theorem pngrow (g n c i vb : Nat) (cur : Array Value) (xc : List Value) (TX : TypeId) (w : World) (hi : i < n) (hnc : n ≤ c) (hroom : c < n + 1) (hn : n ≤ 1000000) (hvw : vb < w.heap.size) (hgw : g < w.heap.size)
    (hg : w.heap[g]? = some (.cells cur 59 (0, 0))) (hcs : cur.size = c * 6) (hv : w.heap[vb]? = some (.cells xc.toArray TX (0, 0))) (hxl : xc.length = 6) (h1c : ∀ u ∈ cur.toList, u.oneCell' = true) (h1x : ∀ u ∈ xc, u.oneCell' = true) :
    Calls Try.prog 117 #[.slice (some ⟨g, 0, none⟩) n c, .int .i64 i, .slice (some ⟨vb, 0, none⟩) 1 1] w fun e w' =>
      ∃ G R, e = .returned (.slice (some ⟨w.heap.size, 0, none⟩) (n + 1) G) ∧ n + 1 ≤ G ∧ G ≤ maxLen ∧ R.size = G * 6 ∧ R.toList.take (n * 6 + 6) = cur.toList.take (i * 6) ++ (xc ++ cur.toList.drop (i * 6)) ∧ w'.heap[w.heap.size]? = some (.cells R 59 (0, 0)) ∧ w.grownBy w' none := by
  obtain ⟨i0, hi0, hz0, hz1, hz2⟩ := info_parts pninfo
  obtain rfl : c = n := by omega
  have lc : cur.toList.length = c * 6 := by simpa using hcs
  have lt : (cur.toList.take (i * 6)).length = i * 6 := by rw [List.length_take, lc]; omega
  have ld : (cur.toList.drop (i * 6)).length = (c - i) * 6 := by rw [List.length_drop, lc, Nat.sub_mul]
  have hold : (Builtin.firstCells i0.size i (.slice (some ⟨g, 0, none⟩) i c)).run Try.prog w.drew = .ok (cur.toList.take (i * 6)).toArray w.drew := by
    exact run_firstCells_some w.drew i0.size i ⟨g, 0, none⟩ i c (cur.toList.take (i * 6)) (by rw [lt, hz1]) (fun j v hj => by
      rw [add_at]
      rw [List.getElem?_take] at hj
      split at hj
      · exact (cellsAt hg _).trans (by simpa using hj)
      · cases hj)
  have hkk : (c : Int) + 1 - (i : Int) = ((c + 1 - i : Nat) : Int) := by omega
  have hik : i + (c + 1 - i) = c + 1 := by omega
  have hrz : ∀ ty, (Builtin.append_ #[47, 3] ty #[.slice (some ⟨g, 0, none⟩) i c, .int .i64 ((c : Int) + 1 - (i : Int))]).run Try.prog w =
      .ok (.slice (some ⟨w.heap.size, 0, none⟩) (c + 1) (grownCap w (c + 1) c 59)) (w.drew.alloc (.cells ((cur.toList.take (i * 6)).toArray ++ Builtin.zeroCells (Value.agg #[.int .i64 0, .int .i64 0, .string ⟨#[]⟩, .int .i64 0, .int .i64 0, .int .i64 0]).cells (c + 1 - i) ++ Builtin.zeroCells (Value.agg #[.int .i64 0, .int .i64 0, .string ⟨#[]⟩, .int .i64 0, .int .i64 0, .int .i64 0]).cells (grownCap w (c + 1) c 59 - (c + 1))) 59)) := fun ty => by
    have h := Lib.run_append_grow_zeros w 47 3 ty 59 i0 _ .i64 .i64 Try.underlying47 Try.underlying3 hi0 hz0 (some ⟨g, 0, none⟩) i c (cur.toList.take (i * 6)) hold (c + 1 - i) (by omega) (by rw [hz1]; omega) (by omega) (by omega) (by rw [hz2]; omega) (by rw [hz2, hik]; exact growslice_fits (by omega) (by omega))
    rw [hik] at h
    rw [hkk]
    exact h
  obtain ⟨G, hG⟩ : ∃ G, G = grownCap w (c + 1) c 59 := ⟨_, rfl⟩
  have hGn : c + 1 ≤ G := by rw [hG]; exact grownCap_ge w _ _ _
  have hGm : G ≤ maxLen := by rw [hG]; exact grownCap_le_maxLen w (c + 1) c 59 (by unfold maxLen; omega)
  rw [← hG] at hrz
  clear hG hold
  obtain ⟨Z, hZ⟩ : ∃ Z, Z = (Builtin.zeroCells (Value.agg #[.int .i64 0, .int .i64 0, .string ⟨#[]⟩, .int .i64 0, .int .i64 0, .int .i64 0]).cells (c + 1 - i)).toList ++ (Builtin.zeroCells (Value.agg #[.int .i64 0, .int .i64 0, .string ⟨#[]⟩, .int .i64 0, .int .i64 0, .int .i64 0]).cells (G - (c + 1))).toList := ⟨_, rfl⟩
  have lz : Z.length = (c + 1 - i) * 6 + (G - (c + 1)) * 6 := by rw [hZ, List.length_append, pnzlen, pnzlen]
  obtain ⟨R0, hR0⟩ : ∃ R0 : Array Value, R0 = (cur.toList.take (i * 6)).toArray ++ Builtin.zeroCells (Value.agg #[.int .i64 0, .int .i64 0, .string ⟨#[]⟩, .int .i64 0, .int .i64 0, .int .i64 0]).cells (c + 1 - i) ++ Builtin.zeroCells (Value.agg #[.int .i64 0, .int .i64 0, .string ⟨#[]⟩, .int .i64 0, .int .i64 0, .int .i64 0]).cells (G - (c + 1)) := ⟨_, rfl⟩
  rw [← hR0] at hrz
  have hRL : R0.toList = cur.toList.take (i * 6) ++ Z := by rw [hR0, hZ]; simp
  have hRs : R0.toList.length = G * 6 := by rw [hRL, List.length_append, lt, lz, Nat.sub_mul, Nat.sub_mul]; have : (c + 1) * 6 ≤ G * 6 := Nat.mul_le_mul_right _ hGn; omega
  obtain ⟨W1, hW1⟩ : ∃ W1, W1 = w.drew.alloc (.cells R0 59) := ⟨_, rfl⟩
  have hN1 : W1.heap[w.heap.size]? = some (.cells R0 59 (0, 0)) := by rw [hW1]; exact heap_alloc_new w.drew _
  have hO1 : ∀ k, k < w.heap.size → W1.heap[k]? = w.heap[k]? := fun k hk => by rw [hW1]; exact heap_alloc_old w.drew _ hk
  have hG1 : w.grownBy W1 none := by rw [hW1]; exact ⟨rfl, rfl, rfl, by simp, fun k hk _ => heap_alloc_old w.drew _ hk⟩
  rw [← hW1] at hrz
  obtain ⟨R1, hR1⟩ : ∃ R1 : Array Value, R1 = (R0.toList.take (i * 6) ++ xc ++ R0.toList.drop (i * 6 + xc.length)).toArray := ⟨_, rfl⟩
  have hfit1 : i * 6 + xc.length ≤ R0.toList.length := by rw [hRs, hxl]; have : (i + 1) * 6 ≤ G * 6 := Nat.mul_le_mul_right _ (by omega); omega
  have hRs1 : R1.toList.length = R0.toList.length := by rw [hR1]; exact splice_len _ _ _ hfit1
  have hcpA : ∀ ty dc, (Builtin.copy_ #[47, 47] ty #[.slice (some ⟨w.heap.size, i * 6, none⟩) (c + 1 - i) dc, .slice (some ⟨vb, 0, none⟩) 1 1]).run Try.prog W1 = .ok (goInt ((1 : Nat) : Int)) (W1.setRow w.heap.size R1) := fun ty dc => by
    rw [hR1]
    exact run_copy_rowK W1 47 47 ty 59 i0 w.heap.size (i * 6) _ dc ⟨vb, 0, none⟩ _ 1 R0 59 xc 1 Try.underlying47 hi0 (by simp only [Nat.min_def]; split <;> omega) (by rw [hxl, hz1]) hN1
      (fun j v hj => by
        rw [add_at]
        exact (cellsAt ((hO1 vb hvw).trans hv) _).trans (by simpa using hj)) (by simpa using hfit1) h1x
  obtain ⟨W2, hW2⟩ : ∃ W2, W2 = W1.setRow w.heap.size R1 := ⟨_, rfl⟩
  have hN2 : W2.heap[w.heap.size]? = some (.cells R1 59 (0, 0)) := by rw [hW2]; exact setRow_heap _ _ R0 _ _ _ hN1
  have hO2 : ∀ k, k < w.heap.size → W2.heap[k]? = w.heap[k]? := fun k hk => by rw [hW2]; exact (setRow_other _ _ k _ (by omega)).trans (hO1 k hk)
  have hG2 : w.grownBy W2 none := ⟨by rw [hW2]; exact hG1.os, by rw [hW2]; exact hG1.tape, by rw [hW2]; exact hG1.output, by rw [hW2]; simpa [World.setRow] using hG1.size, fun k hk _ => hO2 k hk⟩
  rw [← hW2] at hcpA
  obtain ⟨R2, hR2⟩ : ∃ R2 : Array Value, R2 = (R1.toList.take (i * 6 + 6) ++ cur.toList.drop (i * 6) ++ R1.toList.drop (i * 6 + 6 + (cur.toList.drop (i * 6)).length)).toArray := ⟨_, rfl⟩
  have hfit2 : i * 6 + 6 + (cur.toList.drop (i * 6)).length ≤ R1.toList.length := by rw [hRs1, hRs, ld, Nat.sub_mul]; have : (c + 1) * 6 ≤ G * 6 := Nat.mul_le_mul_right _ hGn; have : i * 6 ≤ c * 6 := Nat.mul_le_mul_right _ (by omega); omega
  have hcpB : ∀ ty dc sc, (Builtin.copy_ #[47, 47] ty #[.slice (some ⟨w.heap.size, (i + 1) * 6, none⟩) (c - i) dc, .slice (some ⟨g, i * 6, none⟩) (c - i) sc]).run Try.prog W2.drew = .ok (goInt ((c - i : Nat) : Int)) (W2.drew.setRow w.heap.size R2) := fun ty dc sc => by
    rw [show (i + 1) * 6 = i * 6 + 6 by omega, hR2]
    exact run_copy_rowK W2.drew 47 47 ty 59 i0 w.heap.size (i * 6 + 6) _ dc ⟨g, i * 6, none⟩ _ sc R1 59 (cur.toList.drop (i * 6)) (c - i) Try.underlying47 hi0 (by simp only [Nat.min_def]; split <;> omega) (by rw [ld, hz1]) hN2
      (fun j v hj => by
        rw [add_at]
        rw [List.getElem?_drop] at hj
        exact (cellsAt (W := W2.drew) ((hO2 g hgw).trans hg) _).trans (by simpa using hj)) (by simpa using hfit2) (fun v hv => h1c v (List.mem_of_mem_drop hv))
  obtain ⟨W3, hW3⟩ : ∃ W3, W3 = W2.drew.setRow w.heap.size R2 := ⟨_, rfl⟩
  have hN3 : W3.heap[w.heap.size]? = some (.cells R2 59 (0, 0)) := by rw [hW3]; exact setRow_heap _ _ R1 _ _ _ hN2
  have hG3 : w.grownBy W3 none := ⟨by rw [hW3]; exact hG2.os, by rw [hW3]; exact hG2.tape, by rw [hW3]; exact hG2.output, by rw [hW3]; simpa [World.setRow] using hG2.size, fun k hk _ => by rw [hW3]; exact (setRow_other _ _ k _ (by omega)).trans (hO2 k hk)⟩
  rw [← hW3] at hcpB
  have hRs2 : R2.size = G * 6 := by
    have : R2.toList.length = R1.toList.length := by rw [hR2]; exact splice_len _ _ _ hfit2
    rw [hRs1, hRs] at this
    simpa using this
  have hRf : R2.toList.take (c * 6 + 6) = cur.toList.take (i * 6) ++ (xc ++ cur.toList.drop (i * 6)) := by
    have := ins_grow_list cur.toList xc Z (i * 6) 6 (c * 6) (Nat.mul_le_mul_right _ (by omega)) lc hxl (by rw [lz, Nat.sub_mul, Nat.sub_mul]; have : (c + 1) * 6 ≤ G * 6 := Nat.mul_le_mul_right _ hGn; have : i * 6 ≤ c * 6 := Nat.mul_le_mul_right _ (by omega); omega)
    rw [← hRL] at this
    rw [hR2, hR1]
    exact this
  have FIN := Lib.hid (And.intro hGn (And.intro hGm (And.intro hRs2 (And.intro hRf (And.intro hN3 hG3)))))
  have HA := Lib.hid hrz
  have HBc := Lib.hid hcpA
  have HCc := Lib.hid hcpB
  have hGi : ¬ (G = i) := by omega
  have hGim : ¬ (G = i + 1) := by omega
  have hG63 : G ≤ 9223372036854775807 := by unfold maxLen at hGm; exact hGm
  clear hrz hcpA hcpB hW1 hW2 hW3 hN1 hN2 hN3 hO1 hO2 hG1 hG2 hG3 hRf hRs2 hR0 hR1 hR2 hRL hRs hRs1 hfit1 hfit2 hZ lz lc lt ld hg hv h1c h1x hkk hik hcs hxl hi0 hz0 hz1 hz2 hGm
  have hw1 : IntKind.i64.wrap ((i : Int) + 1) = (i : Int) + 1 := by rw [IntKind.wrap_i64]; omega
  have htn : ((i : Int) + 1).toNat = i + 1 := by omega
  have hb1 : (0 : Int) ≤ (i : Int) + 1 := by omega
  have hci : ¬ (c = i) := by omega
  have hin : i ≤ c := by omega
  have hin1 : i ≤ c + 1 := by omega
  go_enter Try.func117, Try.ntmps117
  have q2 := HBc.out
  go_wp2_with (at_builtin; refine Lib.wpList_append_run _ rfl _ _ _ _ rfl _ _ rfl rfl _ _ (HA.out _) ?_)
  clear q2
  have q3 := HCc.out
  go_region
  clear q3
  go_wp2_with fail
  go_ret
  exact ⟨_, _, rfl, FIN.out⟩
/-- What Insert makes of a row of one's own. -/
def pnInsTo (base n i : Nat) (v : Value) (xs xc : List Value) (w : World) (e : Ending) (w' : World) : Prop :=
  ∃ v', e = .returned v' ∧ w'.ownsRow base 59 6 v' (n + 1) (xs.take (i * 6) ++ (xc ++ xs.drop (i * 6))) ∧ w.grownBy w' v.ownBlock
theorem pninsert (base n i vb : Nat) (v : Value) (xs xc : List Value) (TX : TypeId) (w : World) (hown : w.ownsRow base 59 6 v n xs) (hbase : base ≤ w.heap.size) (hn : n ≤ 1000000) (hi : i ≤ n)
    (hne : v.ownBlock ≠ some vb) (hv : w.heap[vb]? = some (.cells xc.toArray TX (0, 0))) (hxl : xc.length = 6) (h1 : ∀ u ∈ xs, u.oneCell' = true) (h1x : ∀ u ∈ xc, u.oneCell' = true) :
    Calls Try.prog 117 #[v, .int .i64 i, .slice (some ⟨vb, 0, none⟩) 1 1] w (pnInsTo base n i v xs xc w) := by
  by_cases hin : i = n
  · subst hin
    refine (pnend base i vb v xs xc TX w hown hbase hn hv hxl h1x).mono ?_
    rintro e w' ⟨v', rfl, ho, hgr⟩
    refine ⟨v', rfl, ?_, hgr⟩
    rw [List.take_of_length_le (by rw [hown.1]; exact Nat.le_refl _), List.drop_of_length_le (by rw [hown.1]; exact Nat.le_refl _), List.append_nil]
    exact ho
  · rcases hown.2 with ⟨rfl, rfl⟩ | ⟨g, c, cur, rfl, hb, hg, hnc, hcm, hcs, hx⟩
    · omega
    · have hvb : vb ≠ g := fun e => hne (by subst e; rfl)
      by_cases hroom : n + 1 ≤ c
      · refine (pnshift g n c i vb cur xc TX w (by omega) hroom (by unfold maxLen at hcm; exact hcm) hvb hg hcs hv hxl (by rw [hx]; exact h1) h1x).mono ?_
        rintro e w' ⟨rfl, rfl⟩
        have lc : cur.toList.length = c * 6 := by simpa using hcs
        have hfit : i * 6 + 6 + ((cur.toList.take (n * 6)).drop (i * 6)).length ≤ cur.toList.length := by
          rw [List.length_drop, List.length_take, lc]
          omega
        have hs1 : (pnc1 cur.toList n i).toList.length = cur.toList.length := by unfold pnc1; exact splice_len _ _ _ hfit
        have hs2 : (pnc2 (pnc1 cur.toList n i).toList xc i).toList.length = cur.toList.length := by
          unfold pnc2
          rw [← hs1]
          exact splice_len _ _ _ (by rw [hs1, lc, hxl]; omega)
        refine ⟨_, rfl, ⟨by simp only [List.length_append, List.length_take, List.length_drop, hown.1, hxl]; omega, .inr ⟨g, c, _, rfl, hb, setRow_heap _ g _ _ _ _ (setRow_heap _ g cur _ _ _ hg), hroom, hcm, ?_, ?_⟩⟩, ?_⟩
        · rw [← hcs]
          simpa using hs2
        · rw [← hx, show (n + 1) * 6 = n * 6 + 6 by omega]
          exact ins_shift_list cur.toList xc (i * 6) (n * 6) 6 (Nat.mul_le_mul_right _ hi) hxl (by rw [lc]; omega)
        · have hd : w.grownBy w.drew (some g) := ⟨rfl, rfl, rfl, Nat.le_refl _, fun _ _ _ => rfl⟩
          exact grown_trans hd (grown_trans (grown_setRow w.drew g _) (grown_setRow _ g _))
      · have hgw := blk_lt hg
        obtain rfl : c = n := by omega
        have hcur : cur.toList = xs := by rw [← hx]; exact (List.take_of_length_le (by simp [hcs])).symm
        refine (pngrow g c c i vb cur xc TX w (by omega) (Nat.le_refl _) (by omega) hn (blk_lt hv) hgw hg hcs hv hxl (by rw [hcur]; exact h1) h1x).mono ?_
        rintro e w' ⟨G, R, rfl, hG1, hG2, hR1, hR2, hR3, hgr⟩
        rw [hcur] at hR2
        refine ⟨_, rfl, ⟨by simp only [List.length_append, List.length_take, List.length_drop, hown.1, hxl]; omega, .inr ⟨_, G, R, rfl, hbase, hR3, hG1, hG2, hR1, ?_⟩⟩, ⟨hgr.os, hgr.tape, hgr.output, hgr.size, fun k hk _ => hgr.block k hk (by simp)⟩⟩
        rw [show (c + 1) * 6 = c * 6 + 6 by omega]
        exact hR2
end Go.Proofs.Ytlboehpgpbchhaa
