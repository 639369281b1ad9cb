/-
  WALKS of layer 20: the reference's Missing.
-/
import Derived.Test.YtdanfeldbdooeaaChunkW11
import Derived.Test.YtdanfeldbdooeaaChunkW12
import Derived.Test.YtdanfeldbdooeaaChunkW14
set_option linter.unusedVariables false
set_option linter.unusedSimpArgs false
namespace Go.Proofs.Ytdanfeldbdooeaa
open Go.RowKit

theorem at_is (g o no : Int) (l : List Ck) (v : Value) (w : World) (r : Ck × Bool) (hr : atG l no = r) (hv : Row Ck.cs 4 w v l) (hl : l.length ≤ 900000) :
    Calls Try.prog 68 #[.agg #[.int .i64 g, .int .i64 o, v], .int .i64 no] w (AtTo r w) := hr ▸ at_any g o no l v w hv hl
theorem atG_is (l : List Ck) (no : Int) : (atG l no).2 = !(getC l no).isNone := by unfold atG; cases getC l no <;> rfl
def MqRel (l : List Ck) (n b : Nat) (w : World) (u i : Value) (wr : World) : Prop :=
  ∃ k : Nat, k ≤ n ∧ i = .int .i64 k ∧ wr.ownsRow b 3 1 u (missK l k).length ((missK l k).flatMap iCs) ∧ Below b w wr
set_option maxRecDepth 100000 in
set_option maxHeartbeats 4000000 in
theorem rmissing_any (g o : Int) (l : List Ck) (v : Value) (w : World) (hv : Row Ck.cs 4 w v l) (hl : l.length ≤ 900000) (hok : ∀ x ∈ l, x.Ok) :
    Calls Try.prog 41 #[.agg #[.int .i64 g, .int .i64 o, v]] w (MsTo (if rightG g o l = true then missK l o.toNat else []) w) := by
  have R1 := Lib.hid hv
  obtain ⟨q, hq⟩ : ∃ q, rightG g o l = q := ⟨_, rfl⟩
  have HQ := Lib.hid hq
  have HR := Lib.hid (fun W (h : Row Ck.cs 4 W v l) => rright_any g o l v W h (by omega) hok q hq)
  have HAT := Lib.hid (fun W (t : Int) r (hr : atG l t = r) (h : Row Ck.cs 4 W v l) => at_is g o t l v W r hr h hl)
  obtain ⟨A, cp, rfl, -⟩ := hv
  obtain ⟨m, hm⟩ : ∃ m, l.length = m := ⟨_, rfl⟩
  rw [hq]
  obtain ⟨LL, hLL⟩ : ∃ L, (if q = true then missK l o.toNat else []) = L := ⟨_, rfl⟩
  have HLL := Lib.hid hLL
  rw [hLL]
  clear hLL
  rw [hm] at R1 HR HAT hl ⊢
  clear hq hm hok
  obtain ⟨iI, hi, hi0, hi1, hi2⟩ := info_parts info_in3
  have HI := Lib.hid hi
  have HI0 := Lib.hid hi0
  have HI1 := Lib.hid hi1
  have HI2 := Lib.hid hi2
  clear hi hi0 hi1 hi2
  unfold MsTo
  go_enter Try.func41, Try.ntmps41
  go_wp2_with fail
  obtain ⟨W1, hW2⟩ : ∃ X, X = ((w).alloc (.cells #[.int .i64 g, .int .i64 o, .slice A m cp] 52)).alloc (.cells #[] 3) := ⟨_, rfl⟩
  rw [← hW2]
  have hb3 : Below w.heap.size w W1 := by rw [hW2]; exact bel_alloc (bel_alloc (Below.refl _ _) _) _
  have Ns := Lib.hid (show W1.heap[w.heap.size]? = some (.cells #[.int .i64 g, .int .i64 o, .slice A m cp] 52 (0, 0)) by rw [hW2]; exact heap_below (heap_at (w) _ (w.heap.size) (by simp)) (bel_alloc (Below.refl _ _) _))
  have Ne := Lib.hid (show W1.heap[w.heap.size + 1]? = some (.cells #[] 3 (0, 0)) by rw [hW2]; exact heap_at ((w).alloc (.cells #[.int .i64 g, .int .i64 o, .slice A m cp] 52)) _ (w.heap.size + 1) (by simp))
  have HE := Lib.hid (show W1.ownsRow (w.heap.size + 1) 3 1 (.slice (some ⟨w.heap.size + 1, 0, none⟩) 0 0) 0 [] by rw [hW2]; have z := own_empty (w.alloc (.cells #[.int .i64 g, .int .i64 o, .slice A m cp] 52)) (w.heap.size + 1) 3 1 (by simp); rw [show (w.alloc (.cells #[.int .i64 g, .int .i64 o, .slice A m cp] 52)).heap.size = w.heap.size + 1 by simp] at z; exact z)
  clear hW2
  have BB4 := Lib.hid hb3
  clear hb3
  have Bls := Ns
  clear Ns
  have Ble := Ne
  clear Ne
  clear Ble
  have R2 := Lib.hid (R1.out.below BB4.out)
  refine (HR.out _ R2.out).mono ?_
  rintro e w5 ⟨rfl, hb6⟩
  have HEE := Lib.hid (own_below HE.out hb6)
  have Z := Lib.hid (heap_below Bls.out hb6)
  clear Bls
  have Bls := Z
  clear Z
  have Z := Lib.hid (Row.below R2.out hb6)
  clear R2
  have R2 := Z
  clear Z
  have BB7 := Lib.hid (bThen BB4.out hb6)
  clear hb6
  have zs := blk_lt Bls.out
  have xs0 := cellsAt Bls.out 0
  have xs1 := cellsAt Bls.out 1
  have xs2 := cellsAt Bls.out 2
  have fs := frozAt Bls.out
  simp at xs0 xs1 xs2
  cases q with
  | false =>
    have hll := HLL.out
    rw [if_neg (by simp)] at hll
    subst hll
    go_wp2_with fail
    go_ret
    exact ⟨_, rfl, Row.of_own (n := 0) (l := []) iCs_len HEE.out rfl, BB7.out⟩
  | true =>
    have hrg := HQ.out
    unfold rightG at hrg
    simp only [Bool.and_eq_true, decide_eq_true_eq] at hrg
    obtain ⟨n, hn⟩ : ∃ n : Nat, o = n := ⟨o.toNat, by omega⟩
    have hn512 : n ≤ 512 := by omega
    subst hn
    have hll := HLL.out
    rw [if_pos rfl, Int.toNat_natCast] at hll
    subst hll
    clear hrg
    go_wp2_with fail
    clear zs fs xs0 xs1 xs2
    have hsz5 : w.heap.size + 1 ≤ w5.heap.size := blk_lt Bls.out
    go_loopw [3, 4] (fun u i wr => MqRel l n (w.heap.size + 1) w5 u i wr) (fun _ i _ => n - (intOf i).toNat)
    case atStart => exact ⟨0, Nat.zero_le _, rfl, HEE.out, Below.refl _ _⟩
    case round =>
      obtain ⟨k, hk, rfl, hown, hbel⟩ := hrel
      have BJ := Lib.hid hbel
      have HO := Lib.hid hown
      have hml := missK_le l k
      obtain ⟨mm, hmm⟩ : ∃ mm, (missK l k).length = mm := ⟨_, rfl⟩
      have HM := Lib.hid hmm
      rw [hmm] at hml
      have HO2 := HO.out
      rw [hmm] at HO2
      have HO1 := Lib.hid HO2
      obtain ⟨Au, cu, rfl⟩ := own_slice HO2
      have hszr : w.heap.size + 1 ≤ wr.heap.size := Nat.le_trans hsz5 hbel.size
      clear hmm HO HO2 hown
      have hbw := BB7.out.trans (hbel.mono (Nat.le_succ _))
      have Z := Lib.hid ((hbel.block _ (Nat.lt_succ_self _)).trans Bls.out)
      clear Bls
      have Bls := Z
      clear Z R2
      have R2 := Lib.hid (R1.out.below hbw)
      have BBr := Lib.hid hbw
      clear hbw hbel
      by_cases hlt : k < n
      · obtain ⟨⟨⟨cg, cn, co, cb⟩, is⟩, hr⟩ : ∃ r, atG l (k : Int) = r := ⟨_, rfl⟩
        have HGS := Lib.hid (show (getC l (k : Int)).isNone = !is by have h := atG_is l k; rw [hr] at h; simp only at h; rw [h, Bool.not_not])
        have HRR := Lib.hid hr
        clear hr
        have zs := blk_lt Bls.out
        have xs0 := cellsAt Bls.out 0
        have xs1 := cellsAt Bls.out 1
        have xs2 := cellsAt Bls.out 2
        have fs := frozAt Bls.out
        simp at xs0 xs1 xs2
        go_wp2_with fail
        refine (HAT.out _ (k : Int) _ HRR.out R2.out).mono ?_
        rintro e w8 ⟨rfl, hb9⟩
        have HO3 := Lib.hid (own_below HO1.out hb9)
        have B3 := Lib.hid (BJ.out.trans (Below.mono hb9 hszr))
        have hsz9 := Nat.le_trans hszr (Below.size hb9)
        clear HO1
        clear zs fs xs0 xs1 xs2
        have Z := Lib.hid (heap_below Bls.out hb9)
        clear Bls
        have Bls := Z
        clear Z
        have Z := Lib.hid (Row.below R2.out hb9)
        clear R2
        have R2 := Z
        clear Z
        have BB10 := Lib.hid (bThen BBr.out hb9)
        clear hb9
        go_upto_region 8 with fail
        obtain ⟨W11, hW12⟩ : ∃ X, X = (w8).alloc (.cells #[.int .i64 cg, .int .i64 cn, .int .i64 co, .string cb] 56) := ⟨_, rfl⟩
        rw [← hW12]
        have hb13 : Below w8.heap.size w8 W11 := by rw [hW12]; exact bel_alloc (Below.refl _ _) _
        have Nc := Lib.hid (show W11.heap[w8.heap.size]? = some (.cells #[.int .i64 cg, .int .i64 cn, .int .i64 co, .string cb] 56 (0, 0)) by rw [hW12]; exact heap_at (w8) _ (w8.heap.size) (by simp))
        clear hW12
        have HBK := hb13
        have Z := Lib.hid (heap_below Bls.out hb13)
        clear Bls
        have Bls := Z
        clear Z
        have Z := Lib.hid (Row.below R2.out hb13)
        clear R2
        have R2 := Z
        clear Z
        have BB14 := Lib.hid (bThen BB10.out hb13)
        clear hb13
        have Blc := Nc
        clear Nc
        have HO4 := Lib.hid (own_below HO3.out HBK)
        have B4 := Lib.hid (B3.out.trans (Below.mono HBK hsz9))
        have hsz10 := Nat.le_trans hsz9 (Below.size HBK)
        clear HBK HO3 B3
        cases is with
        | true =>
          go_wp2_with fail
          go_roundw
          case rel =>
            refine ⟨k + 1, by omega, by go_num, ?_, B4.out⟩
            rw [missK_succ, if_neg (by rw [HGS.out]; simp), HM.out]
            exact HO4.out
          case measure => simp [intOf]; omega
        | false =>
          go_wp2_with (at_builtin; refine wpList_push _ rfl _ _ 60 rfl (w.heap.size + 1) 3 iI (.int .i64 0) 1 8 Try.underlying60 HI.out HI0.out HI1.out HI2.out rfl (by decide) _ _ _ rfl HO4.out #[.int .i64 k] 3 rfl rfl (by intro u hu; simp at hu; subst hu; rfl) (by unfold maxLen; omega) (by omega) hsz10 ?_)
          intro v5 W5 hown5 BG _
          have O5 := Lib.hid hown5
          have B5 := Lib.hid (B4.out.trans BG)
          clear hown5 BG HO4
          go_wp2_with fail
          go_roundw
          case rel =>
            refine ⟨k + 1, by omega, by go_num, ?_, B5.out⟩
            rw [missK_succ, if_pos (by rw [HGS.out]; rfl), List.length_append, List.flatMap_append, HM.out]
            exact O5.out
          case measure => simp [intOf]; omega
      · obtain rfl : k = n := by omega
        have zs := blk_lt Bls.out
        have xs0 := cellsAt Bls.out 0
        have xs1 := cellsAt Bls.out 1
        have xs2 := cellsAt Bls.out 2
        have fs := frozAt Bls.out
        simp at xs0 xs1 xs2
        go_wp2_with fail
        go_ret
        exact ⟨_, rfl, Row.of_own iCs_len HO1.out HM.out.symm, BBr.out⟩
end Go.Proofs.Ytdanfeldbdooeaa
