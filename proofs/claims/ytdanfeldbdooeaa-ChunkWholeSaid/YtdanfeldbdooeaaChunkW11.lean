/-
  WALKS of layer 20: Missing of the program.
-/
import Derived.Test.YtdanfeldbdooeaaChunkP1
import Derived.Deep.DeepCutAuto
set_option linter.unusedVariables false
set_option linter.unusedSimpArgs false
namespace Go.Proofs.Ytdanfeldbdooeaa
open Go.RowKit

def iCs (n : Int) : List Value := [.int .i64 n]
theorem iCs_len (n : Int) : (iCs n).length = 1 := rfl
/-- The numbers below k that did not come. -/
def missK (l : List Ck) (k : Nat) : List Int := ((List.range k).filter (fun i : Nat => (getC l (i : Int)).isNone)).map (fun i : Nat => (i : Int))
theorem missK_succ (l : List Ck) (k : Nat) : missK l (k + 1) = if (getC l (k : Int)).isNone = true then missK l k ++ [(k : Int)] else missK l k := by
  unfold missK
  rw [List.range_succ, List.filter_append]
  by_cases h : (getC l (k : Int)).isNone = true
  · rw [if_pos h, List.filter_cons, if_pos h]; simp
  · rw [if_neg h, List.filter_cons, if_neg h]; simp
theorem missK_le (l : List Ck) (k : Nat) : (missK l k).length ≤ k := by
  unfold missK
  rw [List.length_map]
  have := List.length_filter_le (fun i : Nat => (getC l (i : Int)).isNone) (List.range k)
  simpa using this
theorem info_in3 : (Try.prog.info? 3).map (fun i => (i.zero, i.size, i.bytes)) = some (some (.int .i64 0), 1, 8) := by kernel_rfl
def MsRel (l : List Ck) (n : Nat) (w : World) (u i : Value) (wr : World) : Prop :=
  ∃ k : Nat, k ≤ n ∧ i = .int .i64 k ∧ wr.ownsRow w.heap.size 3 1 u (missK l k).length ((missK l k).flatMap iCs) ∧ Below w.heap.size w wr
def MsTo (L : List Int) (w : World) (e : Ending) (w' : World) : Prop := ∃ v, e = .returned v ∧ Row iCs 1 w' v L ∧ Below w.heap.size w w'
set_option maxRecDepth 100000 in
set_option maxHeartbeats 4000000 in
theorem missing_any (g o : Int) (l : List Ck) (v : Value) (w : World) (hv : Row Ck.cs 4 w v l) (hl : l.length ≤ 900000) (hok : ∀ x ∈ l, x.Ok) :
    Calls Try.prog 31 #[.agg #[.int .i64 g, .int .i64 o, v]] w (MsTo (if rightG g o l = true then missK l o.toNat else []) w) := by
  have R1 := Lib.hid hv
  obtain ⟨q, hq⟩ : ∃ q, rightG g o l = q := ⟨_, rfl⟩
  have HQ := Lib.hid hq
  have HR := Lib.hid (fun W (h : Row Ck.cs 4 W v l) => cright_any g o l v W h (by omega) hok q hq)
  have HFI := Lib.hid (fun W (t : Int) (hs : srtC l) (h : Row Ck.cs 4 W v l) => find_any l g o t v W h (by omega) hs)
  obtain ⟨A, cp, rfl, -⟩ := hv
  obtain ⟨m, hm⟩ : ∃ m, l.length = m := ⟨_, rfl⟩
  rw [hq]
  obtain ⟨LL, hLL⟩ : ∃ L, (if q = true then missK l o.toNat else []) = L := ⟨_, rfl⟩
  have HLL := Lib.hid hLL
  rw [hLL]
  clear hLL
  rw [hm] at R1 HR HFI hl ⊢
  clear hq hm hok
  obtain ⟨iI, hi, hi0, hi1, hi2⟩ := info_parts info_in3
  have HI := Lib.hid hi
  have HI0 := Lib.hid hi0
  have HI1 := Lib.hid hi1
  have HI2 := Lib.hid hi2
  clear hi hi0 hi1 hi2
  unfold MsTo
  go_enter Try.func31, Try.ntmps31
  go_wp2_with fail
  obtain ⟨W1, hW2⟩ : ∃ X, X = (w).alloc (.cells #[.int .i64 g, .int .i64 o, .slice A m cp] 52) := ⟨_, rfl⟩
  rw [← hW2]
  have hb3 : Below w.heap.size w W1 := by rw [hW2]; exact bel_alloc (Below.refl _ _) _
  have Ns := Lib.hid (show W1.heap[w.heap.size]? = some (.cells #[.int .i64 g, .int .i64 o, .slice A m cp] 52 (0, 0)) by rw [hW2]; exact heap_at (w) _ (w.heap.size) (by simp))
  clear hW2
  have BB4 := Lib.hid hb3
  clear hb3
  have Bls := Ns
  clear Ns
  have R2 := Lib.hid (R1.out.below BB4.out)
  refine (HR.out _ R2.out).mono ?_
  rintro e w5 ⟨rfl, hb6⟩
  have Z := Lib.hid (heap_below Bls.out hb6)
  clear Bls
  have Bls := Z
  clear Z
  have Z := Lib.hid (Row.below R2.out hb6)
  clear R2
  have R2 := Z
  clear Z
  have BB7 := Lib.hid (bThen BB4.out hb6)
  clear hb6
  have zs := blk_lt Bls.out
  have xs0 := cellsAt Bls.out 0
  have xs1 := cellsAt Bls.out 1
  have xs2 := cellsAt Bls.out 2
  have fs := frozAt Bls.out
  simp at xs0 xs1 xs2
  cases q with
  | false =>
    have hll := HLL.out
    rw [if_neg (by simp)] at hll
    subst hll
    go_wp2_with fail
    go_ret
    exact ⟨_, rfl, Row.none_, BB7.out⟩
  | true =>
    have hrg := HQ.out
    unfold rightG at hrg
    simp only [Bool.and_eq_true, decide_eq_true_eq] at hrg
    have HSR := Lib.hid (srtC_of hrg.2)
    obtain ⟨n, hn⟩ : ∃ n : Nat, o = n := ⟨o.toNat, by omega⟩
    have hn512 : n ≤ 512 := by omega
    subst hn
    have hll := HLL.out
    rw [if_pos rfl, Int.toNat_natCast] at hll
    subst hll
    clear hrg
    go_wp2_with fail
    clear zs fs xs0 xs1 xs2
    go_loopw [3, 12] (fun u i wr => MsRel l n w5 u i wr) (fun _ i _ => n - (intOf i).toNat)
    case atStart => exact ⟨0, Nat.zero_le _, rfl, by simpa [missK] using World.ownsRow_nil _ _ _ _, Below.refl _ _⟩
    case round =>
      obtain ⟨k, hk, rfl, hown, hbel⟩ := hrel
      have BJ := Lib.hid hbel
      have HO := Lib.hid hown
      have hml := missK_le l k
      obtain ⟨mm, hmm⟩ : ∃ mm, (missK l k).length = mm := ⟨_, rfl⟩
      have HM := Lib.hid hmm
      rw [hmm] at hml
      have HO2 := HO.out
      rw [hmm] at HO2
      have HO1 := Lib.hid HO2
      obtain ⟨Au, cu, rfl⟩ := own_slice HO2
      clear hmm HO HO2 hown
      have Z := Lib.hid (heap_below Bls.out hbel)
      clear Bls
      have Bls := Z
      clear Z
      have Z := Lib.hid (Row.below R2.out hbel)
      clear R2
      have R2 := Z
      clear Z
      have BB8 := Lib.hid (bThen BB7.out hbel)
      clear hbel
      by_cases hlt : k < n
      · have zs := blk_lt Bls.out
        have xs0 := cellsAt Bls.out 0
        have xs1 := cellsAt Bls.out 1
        have xs2 := cellsAt Bls.out 2
        have fs := frozAt Bls.out
        simp at xs0 xs1 xs2
        go_wp2_with fail
        refine (HFI.out _ (k : Int) HSR.out R2.out).mono ?_
        rintro e w9 ⟨i, hi, rfl, ha, hb10⟩
        have HO3 := Lib.hid (own_below HO1.out hb10)
        have B3 := Lib.hid (bThen BJ.out hb10)
        clear HO1
        obtain ⟨f, hf⟩ : ∃ f, fndC l i (k : Int) = f := ⟨_, rfl⟩
        rw [hf]
        have hgs : (getC l (k : Int)).isNone = !f := by cases f with | true => (obtain ⟨x, -, -, h⟩ := getC_yes HSR.out hf; rw [h]; rfl) | false => (rw [getC_no ha HSR.out hf]; rfl)
        have HGS := Lib.hid hgs
        clear ha hf hgs hi
        clear zs fs xs0 xs1 xs2
        have Z := Lib.hid (heap_below Bls.out hb10)
        clear Bls
        have Bls := Z
        clear Z
        have Z := Lib.hid (Row.below R2.out hb10)
        clear R2
        have R2 := Z
        clear Z
        have BB11 := Lib.hid (bThen BB8.out hb10)
        clear hb10
        cases f with
        | true =>
          go_wp2_with fail
          go_roundw
          case rel =>
            refine ⟨k + 1, by omega, by go_num, ?_, B3.out⟩
            rw [missK_succ, if_neg (by rw [HGS.out]; simp), HM.out]
            exact HO3.out
          case measure => simp [intOf]; omega
        | false =>
          go_wp2_with (at_builtin; refine wpList_push _ rfl _ _ 60 rfl w5.heap.size 3 iI (.int .i64 0) 1 8 Try.underlying60 HI.out HI0.out HI1.out HI2.out rfl (by decide) _ _ _ rfl HO3.out #[.int .i64 k] 3 rfl rfl (by intro u hu; simp at hu; subst hu; rfl) (by unfold maxLen; omega) (by omega) B3.out.size ?_)
          intro v5 W5 hown5 BG _
          have O5 := Lib.hid hown5
          have B5 := Lib.hid (B3.out.trans BG)
          clear hown5 BG HO3
          go_wp2_with fail
          go_roundw
          case rel =>
            refine ⟨k + 1, by omega, by go_num, ?_, B5.out⟩
            rw [missK_succ, if_pos (by rw [HGS.out]; rfl), List.length_append, List.flatMap_append, HM.out]
            exact O5.out
          case measure => simp [intOf]; omega
      · obtain rfl : k = n := by omega
        go_wp2_with fail
        go_ret
        exact ⟨_, rfl, Row.of_own iCs_len HO1.out HM.out.symm, BB8.out⟩
end Go.Proofs.Ytdanfeldbdooeaa
