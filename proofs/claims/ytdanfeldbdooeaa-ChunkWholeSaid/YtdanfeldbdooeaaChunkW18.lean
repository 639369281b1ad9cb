/-
  WALKS of layer 20: Bytes of the program.
-/
import Derived.Test.YtdanfeldbdooeaaChunkW17
set_option linter.unusedVariables false
set_option linter.unusedSimpArgs false
namespace Go.Proofs.Ytdanfeldbdooeaa
open Go.RowKit

def BpRel (l : List Ck) (m b : Nat) (w : World) (i : Value) (wr : World) : Prop := ∃ k : Nat, k ≤ m ∧ i = .int .i64 k ∧ Lib.IsBuilder 102 5 b b (Lib.byteCells (catK l k).data.toList) wr ∧ Below b w wr
theorem bAt_below {T e : TypeId} {B b : Nat} {p : Value} {bs : List Value} {w w' : World} (h : Lib.BuilderAt T e B b p bs w) (hb : Below w.heap.size w w') : Lib.BuilderAt T e B b p bs w' := by
  obtain ⟨hB, v, h1, h2, h3⟩ := h
  exact ⟨hB, v, heap_below h1 hb, own_below h2 hb, h3⟩
theorem isB_below {T e : TypeId} {B b : Nat} {bs : List Value} {w w' : World} (h : Lib.IsBuilder T e B b bs w) (hb : Below w.heap.size w w') : Lib.IsBuilder T e B b bs w' := by
  rcases h with h | h
  · exact .inl (bAt_below h hb)
  · exact .inr (bAt_below h hb)
set_option maxRecDepth 100000 in
set_option maxHeartbeats 4000000 in
theorem bytes_any (g o : Int) (l : List Ck) (v : Value) (w : World) (hv : Row Ck.cs 4 w v l) (hl : l.length ≤ 900000) (hok : ∀ x ∈ l, x.Ok) :
    Calls Try.prog 37 #[.agg #[.int .i64 g, .int .i64 o, v]] w (BtTo (bytesC g o l) w) := by
  have R1 := Lib.hid hv
  obtain ⟨q, hq⟩ : ∃ q, rightG g o l = q := ⟨_, rfl⟩
  have HQ := Lib.hid hq
  have HR := Lib.hid (fun W (h : Row Ck.cs 4 W v l) => cright_any g o l v W h (by omega) hok q hq)
  obtain ⟨A, cp, rfl, -⟩ := hv
  obtain ⟨R, hR⟩ : ∃ R, bytesC g o l = R := ⟨_, rfl⟩
  have HO := Lib.hid hR
  rw [hR]
  obtain ⟨m, hm⟩ : ∃ m, l.length = m := ⟨_, rfl⟩
  rw [hm] at R1 HR hl ⊢
  have Hm := Lib.hid hm
  clear hq hR hm hok
  unfold BtTo
  go_enter Try.func37, Try.ntmps37
  go_wp2_with fail
  obtain ⟨W1, hW2⟩ : ∃ X, X = (w).alloc (.cells #[.int .i64 g, .int .i64 o, .slice A m cp] 52) := ⟨_, rfl⟩
  rw [← hW2]
  have hb3 : Below w.heap.size w W1 := by rw [hW2]; exact bel_alloc (Below.refl _ _) _
  have Ns := Lib.hid (show W1.heap[w.heap.size]? = some (.cells #[.int .i64 g, .int .i64 o, .slice A m cp] 52 (0, 0)) by rw [hW2]; exact heap_at (w) _ (w.heap.size) (by simp))
  clear hW2
  have BB4 := Lib.hid hb3
  clear hb3
  have Bls := Ns
  clear Ns
  have R2 := Lib.hid (R1.out.below BB4.out)
  refine (HR.out _ R2.out).mono ?_
  rintro e w5 ⟨rfl, hb6⟩
  have Z := Lib.hid (heap_below Bls.out hb6)
  clear Bls
  have Bls := Z
  clear Z
  have Z := Lib.hid (Row.below R2.out hb6)
  clear R2
  have R2 := Z
  clear Z
  have BB7 := Lib.hid (bThen BB4.out hb6)
  clear hb6
  have zs := blk_lt Bls.out
  have xs0 := cellsAt Bls.out 0
  have xs1 := cellsAt Bls.out 1
  have xs2 := cellsAt Bls.out 2
  have fs := frozAt Bls.out
  simp at xs0 xs1 xs2
  cases q with
  | false =>
    have HOF := HO.out
    unfold bytesC at HOF
    rw [if_neg (by rw [HQ.out]; simp)] at HOF
    subst HOF
    go_wp2_with fail
    go_ret2
    exact ⟨rfl, BB7.out⟩
  | true =>
    obtain ⟨⟨ho0, ho1⟩, -, hmem⟩ := right_mem HQ.out
    obtain ⟨n, hn⟩ : ∃ n : Nat, o = n := ⟨o.toNat, by omega⟩
    subst hn
    have hma := miss_all HQ.out
    rw [Hm.out] at hma
    obtain ⟨d, hd⟩ : ∃ d, (missK l n).length = d := ⟨_, rfl⟩
    rw [hd] at hma
    have HD := Lib.hid hd
    have HME := Lib.hid hmem
    clear hd hmem ho0
    have hn512 : n ≤ 512 := by omega
    by_cases hz : n = 0
    · have HOF := HO.out
      unfold bytesC at HOF
      rw [if_pos HQ.out, if_pos (.inl (by omega))] at HOF
      subst HOF
      subst hz
      go_wp2_with fail
      go_ret2
      exact ⟨rfl, BB7.out⟩
    · have hz2 : ((n : Int) == 0) = false := by simp; omega
      have HZ := Lib.hid hz
      clear hz
      by_cases hlt : m < n
      · have HOF := HO.out
        unfold bytesC at HOF
        rw [if_pos HQ.out, if_pos (.inr (by rw [Hm.out]; omega))] at HOF
        subst HOF
        have hdp : decide ((m : Int) < (n : Int)) = true := by simp; omega
        go_wp2_with fail
        go_ret2
        exact ⟨rfl, BB7.out⟩
      · have HOF := HO.out
        unfold bytesC at HOF
        rw [if_pos HQ.out, if_neg (by rw [Hm.out]; have := HZ.out; omega), Hm.out] at HOF
        subst HOF
        have hdp : decide ((m : Int) < (n : Int)) = false := by simp; omega
        have hm512 : m ≤ 512 := by omega
        have HLE := Lib.hid (fun k => catK_le (l := l) (fun x hx => (HME.out x hx).1) k)
        go_upto_region 6 with fail
        clear zs fs xs0 xs1 xs2
        have Ls := Lib.hid (blk_lt Bls.out)
        have BB0 := Lib.hid (builder_new w5)
        obtain ⟨WB, hWB⟩ : ∃ X, X = w5.alloc (.cells #[.pointer none, .slice none 0 0] 102) := ⟨_, rfl⟩
        rw [← hWB] at BB0 ⊢
        have hbB : Below w5.heap.size w5 WB := by rw [hWB]; exact bel_alloc (Below.refl _ _) _
        have hszB : w5.heap.size < WB.heap.size := by rw [hWB]; simp
        clear hWB
        have Z := Lib.hid (heap_below Bls.out hbB)
        clear Bls
        have Bls := Z
        clear Z
        have Z := Lib.hid (Row.below R2.out hbB)
        clear R2
        have R2 := Z
        clear Z
        have BB8 := Lib.hid (bThen BB7.out hbB)
        have zs := blk_lt Bls.out
        have xs0 := cellsAt Bls.out 0
        have xs1 := cellsAt Bls.out 1
        have xs2 := cellsAt Bls.out 2
        have fs := frozAt Bls.out
        simp at xs0 xs1 xs2
        go_wp2_with fail
        clear zs fs xs0 xs1 xs2
        have hwB : w.heap.size ≤ w5.heap.size := BB7.out.size
        go_loopw [26] (fun i wr => BpRel l m (w5.heap.size) WB i wr) (fun i _ => m - (intOf i).toNat)
        case atStart => exact ⟨0, Nat.zero_le _, rfl, BB0.out, Below.refl _ _⟩
        case round =>
          obtain ⟨k, hk, rfl, hib, hbj⟩ := hrel
          have IB := Lib.hid hib
          have BJ := Lib.hid hbj
          have hszj := Nat.le_trans (Nat.le_of_lt hszB) hbj.size
          have Z := Lib.hid ((hbj.block _ Ls.out).trans Bls.out)
          clear Bls
          have Bls := Z
          clear Z
          have BBr := Lib.hid (BB8.out.trans (hbj.mono hwB))
          clear R2
          have R2 := Lib.hid (R1.out.below BBr.out)
          clear hib hbj
          obtain ⟨C, hC⟩ : ∃ C, catK l k = C := ⟨_, rfl⟩
          rw [hC] at IB
          have HC := Lib.hid hC
          have hcz : C.size ≤ 256 * k := by rw [← hC]; exact HLE.out k
          clear hC
          by_cases hkm : k < m
          · obtain ⟨x, hi⟩ : ∃ x, l[k]? = some x := ⟨_, List.getElem?_eq_getElem (by rw [Hm.out]; exact hkm)⟩
            have HCS := Lib.hid (show catK l (k + 1) = C ++ x.b by rw [catK_succ hi, HC.out])
            have hxz : x.b.size ≤ 256 := may_size (HME.out x (List.mem_of_getElem? hi)).1
            obtain ⟨b1, o1, c3, e', hc', hb1, hX⟩ := R2.out.at_ hi
            injection e' with e1 e2 e3
            clear e2
            subst e1 e3
            have k0 := hX 0 _ rfl
            have k1 := hX 1 _ rfl
            have k2 := hX 2 _ rfl
            have k3 := hX 3 _ rfl
            clear hX hi
            simp only [Nat.add_zero] at k0 k1 k2 k3
            obtain ⟨xg, xn, xo, xb⟩ := x
            simp only at k0 k1 k2 k3 HCS hxz
            go_upto_region 9 with fail
            clear k0 k1 k2 k3
            obtain ⟨W9, hW10⟩ : ∃ X, X = (wr).alloc (.cells #[.int .i64 xg, .int .i64 xn, .int .i64 xo, .string xb] 56) := ⟨_, rfl⟩
            rw [← hW10]
            have hb11 : Below wr.heap.size wr W9 := by rw [hW10]; exact bel_alloc (Below.refl _ _) _
            have Nx := Lib.hid (show W9.heap[wr.heap.size]? = some (.cells #[.int .i64 xg, .int .i64 xn, .int .i64 xo, .string xb] 56 (0, 0)) by rw [hW10]; exact heap_at (wr) _ (wr.heap.size) (by simp))
            clear hW10
            have HBK := hb11
            have Z := Lib.hid (heap_below Bls.out hb11)
            clear Bls
            have Bls := Z
            clear Z
            have Z := Lib.hid (Row.below R2.out hb11)
            clear R2
            have R2 := Z
            clear Z
            have BB12 := Lib.hid (bThen BBr.out hb11)
            clear hb11
            have Blx := Nx
            clear Nx
            have zx := blk_lt Blx.out
            have xx0 := cellsAt Blx.out 0
            have xx1 := cellsAt Blx.out 1
            have xx2 := cellsAt Blx.out 2
            have xx3 := cellsAt Blx.out 3
            have fx := frozAt Blx.out
            simp at xx0 xx1 xx2 xx3
            have IB2 := Lib.hid (isB_below IB.out HBK)
            have hsz2 := Nat.le_trans hszj HBK.size
            have B2 := Lib.hid (BJ.out.trans (HBK.mono hszj))
            have hlen : (Lib.byteCells C.data.toList).length + xb.size ≤ 140737488355328 := by unfold Lib.byteCells; rw [List.length_map, Array.length_toList]; have : C.data.size = C.size := rfl; omega
            go_wp2_with fail
            refine (writeString_any (w5.heap.size) (w5.heap.size) _ xb _ IB2.out hlen hsz2).mono ?_
            rintro e w9 ⟨rfl, hib9, hb9⟩
            rw [← byte_cat] at hib9
            have B3 := Lib.hid (B2.out.trans hb9)
            have IB3 := Lib.hid hib9
            clear hib9 hb9 IB2 B2
            clear zx fx xx0 xx1 xx2 xx3
            go_wp2_with fail
            go_roundw
            case rel => exact ⟨k + 1, by omega, by go_num, by rw [HCS.out]; exact IB3.out, B3.out⟩
            case measure => simp [intOf]; omega
          · obtain rfl : k = m := by omega
            have hce := HC.out
            go_wp2_with fail
            refine (Try.Builder_String_any (w5.heap.size) (w5.heap.size) _ _ IB.out hszj).mono ?_
            rintro e w9 ⟨rfl, hb9⟩
            have B9 := Lib.hid (BBr.out.trans (hb9.mono hwB))
            go_wp2_with fail
            go_ret2
            exact ⟨by first | rfl | rw [← hce] | rw [hce], B9.out⟩
end Go.Proofs.Ytdanfeldbdooeaa
