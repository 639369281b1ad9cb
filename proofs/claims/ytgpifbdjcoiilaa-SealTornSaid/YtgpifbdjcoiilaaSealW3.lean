/-
  WALKS of layer 3: Get of seal.
-/
import Derived.Test.YtgpifbdjcoiilaaSealW2
import Derived.Deep.RegionWith
import Derived.Deep.DeepCutAuto
namespace Go.Proofs.Ytgpifbdjcoiilaa
open Go.RowKit

/-- What Get answers. -/
def sgR (s : ByteArray) (p : Int) : ByteArray × Int × Int :=
  if p < 0 ∨ (s.size : Int) < p then (⟨#[]⟩, 0, 1)
  else if p = s.size then (⟨#[]⟩, 0, 20)
  else if s.data.toList[p.toNat]? ≠ some 166 then (⟨#[]⟩, 0, 21)
  else match getR s.data.toList (p + 1) with
    | (n, fr, e) =>
      if e ≠ 0 then (⟨#[]⟩, 0, e) else if 8192 < n then (⟨#[]⟩, 0, 2) else if (s.size : Int) < fr + n + 4 then (⟨#[]⟩, 0, 20)
      else if be4S (crc (s.extract p.toNat (fr.toNat + n)).data.toList) = s.extract (fr.toNat + n) (fr.toNat + n + 4) then (s.extract fr.toNat (fr.toNat + n), fr + n + 4, 0)
      else (⟨#[]⟩, 0, 30)

theorem bcell {W w1 : World} (hb : Below W.heap.size W w1) : (∀ b o, b < W.heap.size → w1.cell? ⟨b, o, none⟩ = W.cell? ⟨b, o, none⟩) ∧ (∀ b o, b < W.heap.size → w1.frozen? ⟨b, o, none⟩ = W.frozen? ⟨b, o, none⟩) :=
  ⟨fun b o h => hb.cell (p := ⟨b, o, none⟩) h, fun b o h => hb.frozen (p := ⟨b, o, none⟩) h⟩
theorem four_list (T : ByteArray) (h : T.size = 4) : T.data.toList = [T.data[0]'(by show 0 < T.size; omega), T.data[1]'(by show 1 < T.size; omega), T.data[2]'(by show 2 < T.size; omega), T.data[3]'(by show 3 < T.size; omega)] := by
  have hl : T.data.toList.length = 4 := by rw [len_data]; exact h
  apply List.ext_getElem (by simpa using hl)
  intro i h1 h2
  have : i < 4 := by simpa using h2
  rcases (show i = 0 ∨ i = 1 ∨ i = 2 ∨ i = 3 by omega) with rfl | rfl | rfl | rfl <;> rfl
/-- The test on four bytes is the test on the two strings. -/
theorem sg_match {s T4 : ByteArray} {fr n : Nat} {c0 c1 c2 c3 : UInt8} {X : Int} {Y : Nat} {R : Bool} (hT4 : s.extract (fr + n) (fr + n + 4) = T4) (_ : T4.size = 4)
    (hcc : T4.data.toList = [c0, c1, c2, c3]) (hX : X = (Y : Int)) (hR : (X / 16777216 == (c0.toNat : Int) && (X / 65536 % 256 == (c1.toNat : Int) && (X / 256 % 256 == (c2.toNat : Int) && X % 256 == (c3.toNat : Int)))) = R) (hY : Y < 4294967296) :
    R = true ↔ be4S Y = s.extract (fr + n) (fr + n + 4) := by
  rw [hT4, ← hR, hX]
  have hb : be4S Y = T4 ↔ be4 Y = T4.data.toList := ⟨fun h => by rw [← h]; rfl, fun h => bytes_ext h⟩
  rw [hb, hcc]
  simp only [be4, Bool.and_eq_true, beq_iff_eq, List.cons.injEq, and_true, ← UInt8.toNat_inj]
  rw [u8_ofNat_toNat (by omega), u8_ofNat_toNat (by omega), u8_ofNat_toNat (by omega), u8_ofNat_toNat (by omega)]
  omega
theorem new_cell (W : World) (cs : Array Value) (T : TypeId) (f : Nat × Nat) (j : Nat) : (W.alloc (.cells cs T f)).cell? ⟨W.heap.size, j, none⟩ = cs[j]? := by
  have h : (W.alloc (.cells cs T f)).heap[W.heap.size]? = some (.cells cs T f) := heap_alloc_new _ _
  exact Lib.cell_of_heap h j
theorem slice_at (W : World) (s : ByteArray) (i j : Int) (a b : Nat) (hi : i = a) (hj : j = b) (hab : a ≤ b) (hb : b ≤ s.size) :
    (Instr.slice 9 (.string s) (some (.int .i64 i)) (some (.int .i64 j)) none).run Try.prog W = .ok (.string (s.extract a b)) W := by
  subst hi; subst hj
  rw [run_slice_string_if W 9 s .i64 .i64 (a : Int) (b : Int) Try.underlying9, if_pos ⟨by omega, by omega⟩, if_pos ⟨by omega, by omega⟩, Int.toNat_natCast, Int.toNat_natCast]
theorem eq_u8 (W : World) (d : Nat) (a b : Int) : (Op.equalIn (d + 1) 5 (.int .u8 a) (.int .u8 b)).run Try.prog W = .ok (a == b) W := by
  simp [Op.equalIn, run_underlying Try.underlying5]
theorem eq4 (W : World) (a0 a1 a2 a3 b0 b1 b2 b3 : Int) :
    (Op.equalIn 10000 71 (.agg #[.int .u8 a0, .int .u8 a1, .int .u8 a2, .int .u8 a3]) (.agg #[.int .u8 b0, .int .u8 b1, .int .u8 b2, .int .u8 b3])).run Try.prog W = .ok (a0 == b0 && (a1 == b1 && (a2 == b2 && a3 == b3))) W := by
  have h1 := fun (W : World) (a b : Int) => eq_u8 W 9998 a b
  rw [show (10000 : Nat) = 9998 + 1 + 1 from rfl, Op.equalIn]
  simp only [run_underlying Try.underlying71, Sem.run_bind, Result.andThen]
  by_cases e0 : a0 = b0 <;> by_cases e1 : a1 = b1 <;> by_cases e2 : a2 = b2 <;> by_cases e3 : a3 = b3 <;> simp [h1, e0, e1, e2, e3, go_sem, List.range', List.forIn_cons, Try.sizeOf5, Try.isAgg5]
theorem arr4 (W : World) (g c : Nat) : (Instr.arrayAt 71 (.slice (some ⟨g, 0, none⟩) 4 c)).run Try.prog W = .ok (.pointer (some ⟨g, 0, none⟩)) W := by
  simp [Instr.arrayAt, run_underlying Try.underlying71]
set_option maxHeartbeats 1000000 in
set_option maxRecDepth 100000 in
theorem sget_in (s : ByteArray) (p fr n : Nat) (w : World) (hs : s.size ≤ 140737488355328) (hp : p < s.size) (h166 : s[p] = 166)
    (hg : getR s.data.toList ((p : Int) + 1) = (n, (fr : Int), 0)) (hn : n ≤ 8192) (hfr : p < fr) (hend : fr + n + 4 ≤ s.size) (X : Int) (hX : X = (crc (s.extract p (fr + n)).data.toList : Int)) :
    Calls Try.prog 39 #[.string s, .int .i64 p] w fun e w' => e = .returned (if be4S (crc (s.extract p (fr + n)).data.toList) = s.extract (fr + n) (fr + n + 4) then .tuple #[.string (s.extract fr (fr + n)), .int .i64 (fr + n + 4), .int .i64 0] else .tuple #[.string ⟨#[]⟩, .int .i64 0, .int .i64 30]) ∧ Below w.heap.size w w' := by
  obtain ⟨V, hV⟩ : ∃ V, (if be4S (crc (s.extract p (fr + n)).data.toList) = s.extract (fr + n) (fr + n + 4) then Value.tuple #[.string (s.extract fr (fr + n)), .int .i64 (fr + n + 4), .int .i64 0] else .tuple #[.string ⟨#[]⟩, .int .i64 0, .int .i64 30]) = V := ⟨_, rfl⟩
  rw [hV]
  have HV := Lib.hid hV
  clear hV
  have hXl := crc_lt (s.extract p (fr + n)).data.toList
  have hX0 : 0 ≤ X := by omega
  have hX1 : X < 4294967296 := by omega
  have Hg := Lib.hid hg
  have HX := Lib.hid hX
  clear hXl
  clear hg hX
  have hp0 : decide ((p : Int) < 0) = false := by simp
  have hp1 : decide (s.size < p) = false := by simp; omega
  have hp2 : ((p : Int) == (s.size : Int)) = false := by simp; omega
  go_enter Try.func39, Try.ntmps39
  go_wp2_with fail
  refine (get_any s _ _ n fr 0 (by omega) Hg.out).mono ?_
  rintro e w0 ⟨rfl, rfl⟩
  go_wp2_with fail
  have hT : (s.extract (fr + n) (fr + n + 4)).size = 4 := by rw [ByteArray.size_extract]; omega
  obtain ⟨T4, hT4⟩ : ∃ T4, s.extract (fr + n) (fr + n + 4) = T4 := ⟨_, rfl⟩
  rw [hT4] at hT
  have hb0 := fun (W : World) (c : Nat) (f : Nat × Nat) => (new_cell W (bytesRow T4 c) 5 f 0).trans (bytesRow_at T4 c 0 (by show 0 < T4.size; omega))
  have hb1 := fun (W : World) (c : Nat) (f : Nat × Nat) => (new_cell W (bytesRow T4 c) 5 f 1).trans (bytesRow_at T4 c 1 (by show 1 < T4.size; omega))
  have hb2 := fun (W : World) (c : Nat) (f : Nat × Nat) => (new_cell W (bytesRow T4 c) 5 f 2).trans (bytesRow_at T4 c 2 (by show 2 < T4.size; omega))
  have hb3 := fun (W : World) (c : Nat) (f : Nat × Nat) => (new_cell W (bytesRow T4 c) 5 f 3).trans (bytesRow_at T4 c 3 (by show 3 < T4.size; omega))
  have hcc : T4.data.toList = [T4.data[0]'(by show 0 < T4.size; omega), T4.data[1]'(by show 1 < T4.size; omega), T4.data[2]'(by show 2 < T4.size; omega), T4.data[3]'(by show 3 < T4.size; omega)] := four_list T4 hT
  generalize T4.data[0]'(by show 0 < T4.size; omega) = c0 at hb0 hcc
  generalize T4.data[1]'(by show 1 < T4.size; omega) = c1 at hb1 hcc
  generalize T4.data[2]'(by show 2 < T4.size; omega) = c2 at hb2 hcc
  generalize T4.data[3]'(by show 3 < T4.size; omega) = c3 at hb3 hcc
  have hcv := fun W => run_bytes_of_string (P := Try.prog) W 9 48 5 T4 Try.underlying9 Try.underlying48 Try.underlying5
  simp only [hT] at hcv
  have harr := arr4
  obtain ⟨R, hR⟩ : ∃ R, (X / 16777216 == (c0.toNat : Int) && (X / 65536 % 256 == (c1.toNat : Int) && (X / 256 % 256 == (c2.toNat : Int) && X % 256 == (c3.toNat : Int)))) = R := ⟨_, rfl⟩
  have heq := fun W => eq4 W (X / 16777216) (X / 65536 % 256) (X / 256 % 256) (X % 256) c0.toNat c1.toNat c2.toNat c3.toNat
  rw [hR] at heq
  have HR := Lib.hid hR
  clear hR
  have hwr : IntKind.i64.wrap ((fr : Int) + (n : Int) + 4) = (fr : Int) + (n : Int) + 4 := by rw [IntKind.wrap_i64]; omega
  have hs1 := fun W => slice_at W s (p : Int) ((fr : Int) + (n : Int)) p (fr + n) rfl (by push_cast; rfl) (by omega) (by omega)
  have hs2 := fun W => slice_at W s ((fr : Int) + (n : Int)) ((fr : Int) + (n : Int) + 4) (fr + n) (fr + n + 4) (by push_cast; rfl) (by push_cast; rfl) (by omega) (by omega)
  rw [hT4] at hs2
  obtain ⟨S1, hS1⟩ : ∃ S1, s.extract p (fr + n) = S1 := ⟨_, rfl⟩
  rw [hS1] at hs1 HX
  have hS1s : S1.size ≤ 140737488355328 := by rw [← hS1, ByteArray.size_extract]; omega
  have HS1 := Lib.hid hS1
  have HT4 := Lib.hid hT4
  clear hS1 hT4
  go_cut [70] (fun v W => v = .bool !R ∧ Below w.heap.size w W)
  case first =>
    go_region_with (first | (go_at_call 37; refine (sum_any S1 _ (by omega)).mono ?_; rintro e w0 ⟨rfl, rfl⟩; rw [← HX.out]) | (go_at_call 57; refine (four_any X _ hX0 hX1).mono ?_; rintro e w2 ⟨rfl, hb2⟩; obtain ⟨hbc, hbf⟩ := bcell hb2))
    all_goals
      go_wp2_with fail
      go_meet
      refine ⟨rfl, ?_⟩
      repeat' (first | exact Below.refl _ _ | assumption | refine Below.drew ?_ | refine Below.al ?_ _ | refine Below.then ?_ (by assumption))
  case rest =>
    obtain ⟨rfl, hbw⟩ := hcut
    have hR2 := sg_match (s := s) (fr := fr) (n := n) HT4.out hT hcc HX.out HR.out (crc_lt _)
    have HR2 := Lib.hid hR2
    clear hR2
    cases R
    · have hv := HV.out
      rw [HS1.out, if_neg (by rw [← HR2.out]; simp)] at hv
      have Hv := Lib.hid hv
      clear hv
      go_wp2_with fail
      go_ret3
      exact ⟨congrArg Ending.returned Hv.out, hbw⟩
    · have hv := HV.out
      rw [HS1.out, if_pos (HR2.out.1 rfl)] at hv
      have Hv := Lib.hid hv
      clear hv
      go_wp2_with fail
      go_ret3
      exact ⟨congrArg Ending.returned Hv.out, hbw⟩
end Go.Proofs.Ytgpifbdjcoiilaa
