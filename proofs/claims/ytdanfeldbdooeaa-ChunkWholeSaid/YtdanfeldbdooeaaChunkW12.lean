/-
  WALKS of layer 20: the reference's at.
-/
import Derived.Test.YtdanfeldbdooeaaChunkP1
import Derived.Deep.DeepCutAuto
set_option linter.unusedVariables false
set_option linter.unusedSimpArgs false
namespace Go.Proofs.Ytdanfeldbdooeaa
open Go.RowKit

def ckZ : Ck := ⟨0, 0, 0, ⟨#[]⟩⟩
def atG (l : List Ck) (no : Int) : Ck × Bool := match getC l no with | some x => (x, true) | none => (ckZ, false)
def AtTo (r : Ck × Bool) (w : World) (e : Ending) (w' : World) : Prop := e = .returned (.tuple #[.agg #[.int .i64 r.1.g, .int .i64 r.1.no, .int .i64 r.1.of_, .string r.1.b], .bool r.2]) ∧ Below w.heap.size w w'
def AgRel (l : List Ck) (no : Int) (w : World) (i : Value) (wr : World) : Prop := ∃ k : Nat, k ≤ l.length ∧ i = .int .i64 k ∧ (∀ (j : Nat) (x : Ck), j < k → l[j]? = some x → x.no ≠ no) ∧ Below w.heap.size w wr
theorem getC_first {l : List Ck} {no : Int} {k : Nat} {x : Ck} (hx : l[k]? = some x) (hno : x.no = no) (hall : ∀ (j : Nat) (y : Ck), j < k → l[j]? = some y → y.no ≠ no) : getC l no = some x := by
  unfold getC
  induction l generalizing k with
  | nil => simp at hx
  | cons y l ih =>
    cases k with
    | zero =>
      simp at hx
      subst hx
      rw [List.find?_cons_of_pos (by simpa using hno)]
    | succ k =>
      rw [List.find?_cons_of_neg (by simpa using hall 0 y (by omega) rfl)]
      exact ih (by simpa using hx) (fun j z hj hz => hall (j + 1) z (by omega) (by simpa using hz))
theorem getC_never {l : List Ck} {no : Int} (hall : ∀ (j : Nat) (y : Ck), j < l.length → l[j]? = some y → y.no ≠ no) : getC l no = none := by
  unfold getC
  rw [List.find?_eq_none]
  intro x hx
  obtain ⟨j, hj⟩ := List.mem_iff_getElem?.1 hx
  simpa using hall j x (List.getElem?_eq_some_iff.1 hj).1 hj
set_option maxRecDepth 100000 in
set_option maxHeartbeats 4000000 in
theorem at_any (g o no : Int) (l : List Ck) (v : Value) (w : World) (hv : Row Ck.cs 4 w v l) (hl : l.length ≤ 900000) :
    Calls Try.prog 68 #[.agg #[.int .i64 g, .int .i64 o, v], .int .i64 no] w (AtTo (atG l no) w) := by
  have R1 := Lib.hid hv
  obtain ⟨A, cp, rfl, -⟩ := hv
  obtain ⟨m, hm⟩ : ∃ m, l.length = m := ⟨_, rfl⟩
  have Hm := Lib.hid hm
  rw [hm] at R1 hl ⊢
  clear hm
  obtain ⟨R, hR⟩ : ∃ R, atG l no = R := ⟨_, rfl⟩
  have HO := Lib.hid hR
  rw [hR]
  clear hR
  unfold AtTo
  go_enter Try.func68, Try.ntmps68
  go_upto_region 1 with fail
  obtain ⟨W1, hW2⟩ : ∃ X, X = ((w).alloc (.cells #[.int .i64 g, .int .i64 o, .slice A m cp] 52)).alloc (.cells #[.int .i64 0, .int .i64 0, .int .i64 0, .string ⟨#[]⟩] 56) := ⟨_, rfl⟩
  rw [← hW2]
  have hb3 : Below w.heap.size w W1 := by rw [hW2]; exact bel_alloc (bel_alloc (Below.refl _ _) _) _
  have Ns := Lib.hid (show W1.heap[w.heap.size]? = some (.cells #[.int .i64 g, .int .i64 o, .slice A m cp] 52 (0, 0)) by rw [hW2]; exact heap_below (heap_at (w) _ (w.heap.size) (by simp)) (bel_alloc (Below.refl _ _) _))
  have Nz := Lib.hid (show W1.heap[w.heap.size + 1]? = some (.cells #[.int .i64 0, .int .i64 0, .int .i64 0, .string ⟨#[]⟩] 56 (0, 0)) by rw [hW2]; exact heap_at ((w).alloc (.cells #[.int .i64 g, .int .i64 o, .slice A m cp] 52)) _ (w.heap.size + 1) (by simp))
  clear hW2
  have BB4 := Lib.hid hb3
  clear hb3
  have Bls := Ns
  clear Ns
  have Blz := Nz
  clear Nz
  have zs := blk_lt Bls.out
  have xs0 := cellsAt Bls.out 0
  have xs1 := cellsAt Bls.out 1
  have xs2 := cellsAt Bls.out 2
  have fs := frozAt Bls.out
  simp at xs0 xs1 xs2
  have zz := blk_lt Blz.out
  have xz0 := cellsAt Blz.out 0
  have xz1 := cellsAt Blz.out 1
  have xz2 := cellsAt Blz.out 2
  have xz3 := cellsAt Blz.out 3
  have fz := frozAt Blz.out
  simp at xz0 xz1 xz2 xz3
  go_wp2_with fail
  clear zs fs xs0 xs1 xs2 zz fz xz0 xz1 xz2 xz3
  go_loopw [11] (fun i wr => AgRel l no W1 i wr) (fun i _ => m - (intOf i).toNat)
  case atStart => exact ⟨0, Nat.zero_le _, rfl, fun j x h => absurd h (Nat.not_lt_zero _), Below.refl _ _⟩
  case round =>
    obtain ⟨k, hk, rfl, hall, hbj⟩ := hrel
    rw [Hm.out] at hk
    have BJ := Lib.hid hbj
    have HALL := Lib.hid hall
    clear hall
    have Z := Lib.hid (heap_below Bls.out hbj)
    clear Bls
    have Bls := Z
    clear Z
    have Z := Lib.hid (heap_below Blz.out hbj)
    clear Blz
    have Blz := Z
    clear Z
    have BB5 := Lib.hid (bThen BB4.out hbj)
    clear hbj
    by_cases hlt : k < m
    · obtain ⟨x, hi⟩ : ∃ x, l[k]? = some x := ⟨_, List.getElem?_eq_getElem (by rw [Hm.out]; exact hlt)⟩
      have HX := Lib.hid hi
      obtain ⟨b1, o1, c3, e', hc', hb1, hX⟩ := (R1.out.below BB5.out).at_ hi
      injection e' with e1 e2 e3
      clear e2
      subst e1 e3
      have k0 := hX 0 _ rfl
      have k1 := hX 1 _ rfl
      have k2 := hX 2 _ rfl
      have k3 := hX 3 _ rfl
      clear hX hi
      obtain ⟨xg, xn, xo, xb⟩ := x
      simp only [Nat.add_zero] at k0 k1 k2 k3
      go_upto_region 4 with fail
      clear k0 k1 k2 k3
      obtain ⟨W6, hW7⟩ : ∃ X, X = (wr).alloc (.cells #[.int .i64 xg, .int .i64 xn, .int .i64 xo, .string xb] 56) := ⟨_, rfl⟩
      rw [← hW7]
      have hb8 : Below wr.heap.size wr W6 := by rw [hW7]; exact bel_alloc (Below.refl _ _) _
      have Nc := Lib.hid (show W6.heap[wr.heap.size]? = some (.cells #[.int .i64 xg, .int .i64 xn, .int .i64 xo, .string xb] 56 (0, 0)) by rw [hW7]; exact heap_at (wr) _ (wr.heap.size) (by simp))
      clear hW7
      have HBK := hb8
      have Z := Lib.hid (heap_below Bls.out hb8)
      clear Bls
      have Bls := Z
      clear Z
      have Z := Lib.hid (heap_below Blz.out hb8)
      clear Blz
      have Blz := Z
      clear Z
      have BB9 := Lib.hid (bThen BB5.out hb8)
      clear hb8
      have Blc := Nc
      clear Nc
      have zc := blk_lt Blc.out
      have xc0 := cellsAt Blc.out 0
      have xc1 := cellsAt Blc.out 1
      have xc2 := cellsAt Blc.out 2
      have xc3 := cellsAt Blc.out 3
      have fc := frozAt Blc.out
      simp at xc0 xc1 xc2 xc3
      have zz := blk_lt Blz.out
      have xz0 := cellsAt Blz.out 0
      have xz1 := cellsAt Blz.out 1
      have xz2 := cellsAt Blz.out 2
      have xz3 := cellsAt Blz.out 3
      have fz := frozAt Blz.out
      simp at xz0 xz1 xz2 xz3
      by_cases hno : xn = no
      · have t1 : (xn == no) = true := by simpa using hno
        have t2 : decide (xn = no) = true := by simpa using hno
        have HOF := HO.out
        unfold atG at HOF
        rw [getC_first HX.out hno HALL.out] at HOF
        subst HOF
        clear hno
        go_wp2_with fail
        exact bodyPost_ret (v := .tuple #[.agg #[.int .i64 xg, .int .i64 xn, .int .i64 xo, .string xb], .bool true]) (by simp [results, Try.results68, go_sem, xz0, xz1, xz2, xz3]) rfl ⟨rfl, (((BB9.out.setCell (p := ⟨w.heap.size + 1, 0, none⟩) (Nat.le_succ _) _).setCell (p := ⟨w.heap.size + 1, 1, none⟩) (Nat.le_succ _) _).setCell (p := ⟨w.heap.size + 1, 2, none⟩) (Nat.le_succ _) _).setCell (p := ⟨w.heap.size + 1, 3, none⟩) (Nat.le_succ _) _⟩
      · have t1 : (xn == no) = false := by simpa using hno
        have t2 : decide (xn = no) = false := by simpa using hno
        go_wp2_with fail
        go_roundw
        case rel =>
          refine ⟨k + 1, by rw [Hm.out]; omega, by go_num, fun j y hj hy => ?_, bThen BJ.out HBK⟩
          by_cases hjk : j < k
          · exact HALL.out j y hjk hy
          · obtain rfl : j = k := by omega
            rw [HX.out] at hy
            injection hy with hy
            rw [← hy]
            exact hno
        case measure => simp [intOf]; omega
    · obtain rfl : k = m := by omega
      have HOF := HO.out
      unfold atG at HOF
      rw [getC_never (fun j y hj hy => HALL.out j y (by rw [Hm.out] at hj; exact hj) hy)] at HOF
      subst HOF
      have zz := blk_lt Blz.out
      have xz0 := cellsAt Blz.out 0
      have xz1 := cellsAt Blz.out 1
      have xz2 := cellsAt Blz.out 2
      have xz3 := cellsAt Blz.out 3
      have fz := frozAt Blz.out
      simp at xz0 xz1 xz2 xz3
      go_wp2_with fail
      exact bodyPost_ret (v := .tuple #[.agg #[.int .i64 0, .int .i64 0, .int .i64 0, .string ⟨#[]⟩], .bool false]) (by simp [results, Try.results68, go_sem, xz0, xz1, xz2, xz3]) rfl ⟨rfl, (((BB5.out.setCell (p := ⟨w.heap.size + 1, 0, none⟩) (Nat.le_succ _) _).setCell (p := ⟨w.heap.size + 1, 1, none⟩) (Nat.le_succ _) _).setCell (p := ⟨w.heap.size + 1, 2, none⟩) (Nat.le_succ _) _).setCell (p := ⟨w.heap.size + 1, 3, none⟩) (Nat.le_succ _) _⟩
end Go.Proofs.Ytdanfeldbdooeaa
