/-
  WALKS of layer 20: Bytes of the reference.
-/
import Derived.Test.YtdanfeldbdooeaaChunkP4
import Derived.Test.YtdanfeldbdooeaaChunkW15
set_option linter.unusedVariables false
set_option linter.unusedSimpArgs false
namespace Go.Proofs.Ytdanfeldbdooeaa
open Go.RowKit

def BtTo (m : Bt) (w : World) (e : Ending) (w' : World) : Prop := e = .returned (.tuple #[.string m.b, .int .i64 m.er]) ∧ Below w.heap.size w w'
def BrRel (l : List Ck) (m : Nat) (w : World) (s i : Value) (wr : World) : Prop := ∃ k : Nat, k ≤ m ∧ s = .string (catK l k) ∧ i = .int .i64 k ∧ Below w.heap.size w wr
set_option maxRecDepth 100000 in
set_option maxHeartbeats 4000000 in
theorem rbytes_any (g o : Int) (l : List Ck) (v : Value) (w : World) (hv : Row Ck.cs 4 w v l) (hl : l.length ≤ 900000) (hok : ∀ x ∈ l, x.Ok) :
    Calls Try.prog 38 #[.agg #[.int .i64 g, .int .i64 o, v]] w (BtTo (bytesC g o l) w) := by
  have R1 := Lib.hid hv
  obtain ⟨q, hq⟩ : ∃ q, rightG g o l = q := ⟨_, rfl⟩
  have HQ := Lib.hid hq
  have HR := Lib.hid (fun W (h : Row Ck.cs 4 W v l) => rright_any g o l v W h (by omega) hok q hq)
  have HM := Lib.hid (fun W (h : Row Ck.cs 4 W v l) => rmissing_any g o l v W h hl hok)
  obtain ⟨A, cp, rfl, -⟩ := hv
  obtain ⟨R, hR⟩ : ∃ R, bytesC g o l = R := ⟨_, rfl⟩
  have HO := Lib.hid hR
  rw [hR]
  obtain ⟨m, hm⟩ : ∃ m, l.length = m := ⟨_, rfl⟩
  rw [hm] at R1 HR HM hl ⊢
  have Hm := Lib.hid hm
  clear hq hR hm hok
  unfold BtTo
  go_enter Try.func38, Try.ntmps38
  go_wp2_with fail
  obtain ⟨W1, hW2⟩ : ∃ X, X = (w).alloc (.cells #[.int .i64 g, .int .i64 o, .slice A m cp] 52) := ⟨_, rfl⟩
  rw [← hW2]
  have hb3 : Below w.heap.size w W1 := by rw [hW2]; exact bel_alloc (Below.refl _ _) _
  have Ns := Lib.hid (show W1.heap[w.heap.size]? = some (.cells #[.int .i64 g, .int .i64 o, .slice A m cp] 52 (0, 0)) by rw [hW2]; exact heap_at (w) _ (w.heap.size) (by simp))
  clear hW2
  have BB4 := Lib.hid hb3
  clear hb3
  have Bls := Ns
  clear Ns
  have R2 := Lib.hid (R1.out.below BB4.out)
  refine (HR.out _ R2.out).mono ?_
  rintro e w5 ⟨rfl, hb6⟩
  have Z := Lib.hid (heap_below Bls.out hb6)
  clear Bls
  have Bls := Z
  clear Z
  have Z := Lib.hid (Row.below R2.out hb6)
  clear R2
  have R2 := Z
  clear Z
  have BB7 := Lib.hid (bThen BB4.out hb6)
  clear hb6
  have zs := blk_lt Bls.out
  have xs0 := cellsAt Bls.out 0
  have xs1 := cellsAt Bls.out 1
  have xs2 := cellsAt Bls.out 2
  have fs := frozAt Bls.out
  simp at xs0 xs1 xs2
  cases q with
  | false =>
    have HOF := HO.out
    unfold bytesC at HOF
    rw [if_neg (by rw [HQ.out]; simp)] at HOF
    subst HOF
    go_wp2_with fail
    go_ret2
    exact ⟨rfl, BB7.out⟩
  | true =>
    obtain ⟨⟨ho0, ho1⟩, -, hmem⟩ := right_mem HQ.out
    obtain ⟨n, hn⟩ : ∃ n : Nat, o = n := ⟨o.toNat, by omega⟩
    subst hn
    have hma := miss_all HQ.out
    rw [Hm.out] at hma
    obtain ⟨d, hd⟩ : ∃ d, (missK l n).length = d := ⟨_, rfl⟩
    rw [hd] at hma
    have HD := Lib.hid hd
    have HME := Lib.hid hmem
    clear hd hmem ho0
    have hn512 : n ≤ 512 := by omega
    by_cases hz : n = 0
    · have HOF := HO.out
      unfold bytesC at HOF
      rw [if_pos HQ.out, if_pos (.inl (by omega))] at HOF
      subst HOF
      subst hz
      go_wp2_with fail
      go_ret2
      exact ⟨rfl, BB7.out⟩
    · have hz2 : ((n : Int) == 0) = false := by simp; omega
      have HZ := Lib.hid hz
      clear hz
      go_wp2_with fail
      have hmt := HM.out _ R2.out
      rw [if_pos HQ.out, Int.toNat_natCast] at hmt
      have HMT := Lib.hid hmt
      clear hmt
      refine HMT.out.mono ?_
      rintro e w8 ⟨vm, rfl, hrm, hb9⟩
      obtain ⟨Am, cm, rfl, -⟩ := hrm
      rw [HD.out]
      clear zs fs xs0 xs1 xs2
      have Z := Lib.hid (heap_below Bls.out hb9)
      clear Bls
      have Bls := Z
      clear Z
      have Z := Lib.hid (Row.below R2.out hb9)
      clear R2
      have R2 := Z
      clear Z
      have BB10 := Lib.hid (bThen BB7.out hb9)
      clear hb9
      have zs := blk_lt Bls.out
      have xs0 := cellsAt Bls.out 0
      have xs1 := cellsAt Bls.out 1
      have xs2 := cellsAt Bls.out 2
      have fs := frozAt Bls.out
      simp at xs0 xs1 xs2
      by_cases hlt : m < n
      · have HOF := HO.out
        unfold bytesC at HOF
        rw [if_pos HQ.out, if_pos (.inr (by rw [Hm.out]; omega))] at HOF
        subst HOF
        have hdp : decide ((0 : Int) < (d : Int)) = true := by simp; omega
        go_wp2_with fail
        go_ret2
        exact ⟨rfl, BB10.out⟩
      · have HOF := HO.out
        unfold bytesC at HOF
        rw [if_pos HQ.out, if_neg (by rw [Hm.out]; have := HZ.out; omega), Hm.out] at HOF
        subst HOF
        have hdp : decide ((0 : Int) < (d : Int)) = false := by simp; omega
        have hm512 : m ≤ 512 := by omega
        have HLE := Lib.hid (fun k => catK_le (l := l) (fun x hx => (HME.out x hx).1) k)
        go_wp2_with fail
        clear zs fs xs0 xs1 xs2
        go_loopw [4, 22] (fun s i wr => BrRel l m w8 s i wr) (fun _ i _ => m - (intOf i).toNat)
        case atStart => exact ⟨0, Nat.zero_le _, rfl, rfl, Below.refl _ _⟩
        case round =>
          obtain ⟨k, hk, rfl, rfl, hbj⟩ := hrel
          have BJ := Lib.hid hbj
          have Z := Lib.hid (heap_below Bls.out hbj)
          clear Bls
          have Bls := Z
          clear Z
          have Z := Lib.hid (Row.below R2.out hbj)
          clear R2
          have R2 := Z
          clear Z
          have BB11 := Lib.hid (bThen BB10.out hbj)
          clear hbj
          obtain ⟨C, hC⟩ : ∃ C, catK l k = C := ⟨_, rfl⟩
          rw [hC]
          have HC := Lib.hid hC
          have hcz : C.size ≤ 256 * k := by rw [← hC]; exact HLE.out k
          clear hC
          by_cases hkm : k < m
          · obtain ⟨x, hi⟩ : ∃ x, l[k]? = some x := ⟨_, List.getElem?_eq_getElem (by rw [Hm.out]; exact hkm)⟩
            have HCS := Lib.hid (show catK l (k + 1) = C ++ x.b by rw [catK_succ hi, HC.out])
            have hxz : x.b.size ≤ 256 := may_size (HME.out x (List.mem_of_getElem? hi)).1
            obtain ⟨b1, o1, c3, e', hc', hb1, hX⟩ := R2.out.at_ hi
            injection e' with e1 e2 e3
            clear e2
            subst e1 e3
            have k0 := hX 0 _ rfl
            have k1 := hX 1 _ rfl
            have k2 := hX 2 _ rfl
            have k3 := hX 3 _ rfl
            clear hX hi
            simp only [Nat.add_zero] at k0 k1 k2 k3
            obtain ⟨xg, xn, xo, xb⟩ := x
            simp only at k0 k1 k2 k3 HCS hxz
            go_upto_region 9 with fail
            clear k0 k1 k2 k3
            obtain ⟨W12, hW13⟩ : ∃ X, X = (wr).alloc (.cells #[.int .i64 xg, .int .i64 xn, .int .i64 xo, .string xb] 56) := ⟨_, rfl⟩
            rw [← hW13]
            have hb14 : Below wr.heap.size wr W12 := by rw [hW13]; exact bel_alloc (Below.refl _ _) _
            have Nx := Lib.hid (show W12.heap[wr.heap.size]? = some (.cells #[.int .i64 xg, .int .i64 xn, .int .i64 xo, .string xb] 56 (0, 0)) by rw [hW13]; exact heap_at (wr) _ (wr.heap.size) (by simp))
            clear hW13
            have HBK := hb14
            have Z := Lib.hid (heap_below Bls.out hb14)
            clear Bls
            have Bls := Z
            clear Z
            have Z := Lib.hid (Row.below R2.out hb14)
            clear R2
            have R2 := Z
            clear Z
            have BB15 := Lib.hid (bThen BB11.out hb14)
            clear hb14
            have Blx := Nx
            clear Nx
            have zx := blk_lt Blx.out
            have xx0 := cellsAt Blx.out 0
            have xx1 := cellsAt Blx.out 1
            have xx2 := cellsAt Blx.out 2
            have xx3 := cellsAt Blx.out 3
            have fx := frozAt Blx.out
            simp at xx0 xx1 xx2 xx3
            have hsum : ¬ (9223372036854775807 < C.size + xb.size) := by omega
            go_wp2_with fail
            go_roundw
            case rel => exact ⟨k + 1, by omega, by rw [HCS.out], by go_num, bThen BJ.out HBK⟩
            case measure => simp [intOf]; omega
          · obtain rfl : k = m := by omega
            have hce := HC.out
            go_wp2_with fail
            go_ret2
            exact ⟨by first | rfl | rw [hce], BB11.out⟩
end Go.Proofs.Ytdanfeldbdooeaa
