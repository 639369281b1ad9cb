/-
  WALKS of layer 18: what waited on an input.
-/
import Derived.Test.YtenpgkkefielfaaAlignW12
import Derived.Test.YtenpgkkefielfaaRowsPush
import Derived.Deep.DeepCutAuto
set_option linter.unusedVariables false
set_option linter.unusedSimpArgs false
namespace Go.Proofs.Ytenpgkkefielfaa
open Go.RowKit

/-- What waited: its input, and the item. -/
structure Lt where
  k : Int
  it : It
def Lt.cs (x : Lt) : List Value := .int .i64 x.k :: x.it.cs
theorem Lt.cs_len (x : Lt) : x.cs.length = 12 := rfl
def ltV (x : Lt) : Value := .agg #[.int .i64 x.k, .int .i64 x.it.kind, .string x.it.ek, .int .i64 x.it.ea, .int .i64 x.it.ev, .int .i64 x.it.ma, .int .i64 x.it.n, .int .i64 x.it.lo, .int .i64 x.it.hi, .string x.it.rk, .int .i64 x.it.rn, .int .i64 x.it.rv]
def lateL (k : Int) (l : List It) : List Lt := l.map (Lt.mk k)
theorem info_lt : (Try.prog.info? 49).map (fun i => (i.zero, i.size, i.bytes)) = some (some (ltV ⟨0, itZ⟩), 12, 112) := by kernel_rfl
theorem Lt.cs_one {l : List Lt} : ∀ u ∈ l.flatMap Lt.cs, u.oneCell' = true := by
  intro u hu
  obtain ⟨x, -, hx⟩ := List.mem_flatMap.1 hu
  simp [Lt.cs, It.cs] at hx
  rcases hx with rfl | rfl | rfl | rfl | rfl | rfl | rfl | rfl | rfl | rfl | rfl | rfl <;> rfl
theorem held_row {W : World} {vh : Value} {held : List Hl} (h : Row Hl.cs 1 W vh held) {k : Nat} {x : Hl} (hx : held[k]? = some x) :
    ∃ b o c, vh = .slice (some ⟨b, o, none⟩) held.length c ∧ b < W.heap.size ∧ W.cell? ⟨b, o + k, none⟩ = some x.row := by
  obtain ⟨b, o, c, e, -, hb, hX⟩ := h.at_ hx
  have := hX 0 _ rfl
  simp only [Nat.add_zero, Nat.mul_one] at this
  exact ⟨b, o, c, e, hb, this⟩
def LateTo (k : Nat) (l : List It) (w : World) (e : Ending) (w' : World) : Prop := ∃ v, e = .returned v ∧ w'.ownsRow w.heap.size 49 12 v l.length ((lateL k l).flatMap Lt.cs) ∧ Below w.heap.size w w'
def LateRel (k : Nat) (l : List It) (w : World) (u i : Value) (wr : World) : Prop := ∃ j : Nat, j ≤ l.length ∧ i = .int .i64 j ∧ wr.ownsRow w.heap.size 49 12 u j ((lateL k (l.take j)).flatMap Lt.cs) ∧ Below w.heap.size w wr
set_option maxHeartbeats 2000000 in
set_option maxRecDepth 100000 in
theorem late_any (p : Nat) (T : TypeId) (v0 v1 vh : Value) (held : List Hl) (k : Nat) (hk8 : held.length ≤ 8) (x : Hl) (hx : held[k]? = some x) (hl : x.l.length ≤ 16) (w : World) (hp : w.heap[p]? = some (.cells #[v0, v1, vh] T (0, 0))) (hr : Row Hl.cs 1 w vh held) (hxa : x.At w) :
    Calls Try.prog 49 #[.pointer (some ⟨p, 0, none⟩), .int .i64 k] w (LateTo k x.l w) := by
  have hkl := (List.getElem?_eq_some_iff.1 hx).1
  obtain ⟨b, o, c, rfl, hb, hc⟩ := held_row hr hx
  have HXA := Lib.hid hxa
  obtain ⟨⟨Ax, cx, hxe, -, -⟩, -, -⟩ := hxa
  obtain ⟨xr, xl⟩ := x
  simp only at hxe hc hl
  subst hxe
  have HX := Lib.hid hx
  obtain ⟨i0, hi, hi0, hi1, hi2⟩ := info_parts info_lt
  have HI := Lib.hid hi
  have HZ0 := Lib.hid hi0
  have HZ1 := Lib.hid hi1
  have HZ2 := Lib.hid hi2
  obtain ⟨lh, hlh⟩ : ∃ n, held.length = n := ⟨_, rfl⟩
  rw [hlh] at hkl hk8 hp hr
  show Calls Try.prog 49 #[.pointer (some ⟨p, 0, none⟩), .int .i64 k] w (LateTo k xl w)
  have hk0 : (0 : Int) ≤ (k : Int) := by omega
  have hk1 : (k : Int) < (lh : Int) := by omega
  have p2 := cellsAt hp 2
  have pz := blk_lt hp
  simp at p2
  have HP := Lib.hid hp
  clear hi hi0 hi1 hi2 hx hr hlh hp
  go_enter Try.func49, Try.ntmps49
  go_wp2_with fail
  go_loopw [5, 17] (fun u i wr => LateRel k xl w u i wr) (fun _ i _ => xl.length - (intOf i).toNat)
  case atStart => exact ⟨0, Nat.zero_le _, rfl, World.ownsRow_nil _ _ _ _, Below.refl _ _⟩
  case round =>
    obtain ⟨j, hj, rfl, hown, hbel⟩ := hrel
    have HB := Lib.hid hbel
    have HO := Lib.hid hown
    clear hbel hown
    by_cases hlt : j < xl.length
    · obtain ⟨y, hi⟩ : ∃ y, xl[j]? = some y := ⟨_, List.getElem?_eq_getElem hlt⟩
      obtain ⟨b', o', c', e', hc', hb', hX⟩ := HXA.out.1.at_ hi
      injection e' with e1 _ e3
      subst e1 e3
      have c0 := (HB.out.cell (p := ⟨b', o' + j * 11 + 0, none⟩) hb').trans (hX 0 _ rfl)
      have c1 := (HB.out.cell (p := ⟨b', o' + j * 11 + 1, none⟩) hb').trans (hX 1 _ rfl)
      have c2 := (HB.out.cell (p := ⟨b', o' + j * 11 + 2, none⟩) hb').trans (hX 2 _ rfl)
      have c3 := (HB.out.cell (p := ⟨b', o' + j * 11 + 3, none⟩) hb').trans (hX 3 _ rfl)
      have c4 := (HB.out.cell (p := ⟨b', o' + j * 11 + 4, none⟩) hb').trans (hX 4 _ rfl)
      have c5 := (HB.out.cell (p := ⟨b', o' + j * 11 + 5, none⟩) hb').trans (hX 5 _ rfl)
      have c6 := (HB.out.cell (p := ⟨b', o' + j * 11 + 6, none⟩) hb').trans (hX 6 _ rfl)
      have c7 := (HB.out.cell (p := ⟨b', o' + j * 11 + 7, none⟩) hb').trans (hX 7 _ rfl)
      have c8 := (HB.out.cell (p := ⟨b', o' + j * 11 + 8, none⟩) hb').trans (hX 8 _ rfl)
      have c9 := (HB.out.cell (p := ⟨b', o' + j * 11 + 9, none⟩) hb').trans (hX 9 _ rfl)
      have c10 := (HB.out.cell (p := ⟨b', o' + j * 11 + 10, none⟩) hb').trans (hX 10 _ rfl)
      have HIx := Lib.hid hi
      have hzb := Nat.lt_of_lt_of_le hb' HB.out.size
      clear hX hi
      obtain ⟨y0, y1, y2, y3, y4, y5, y6, y7, y8, y9, y10⟩ := y
      simp only [Nat.add_zero] at c0 c1 c2 c3 c4 c5 c6 c7 c8 c9 c10
      go_upto_region 5 with fail
      obtain ⟨W4, hW4⟩ : ∃ W4, W4 = wr.alloc (.cells #[.int .i64 y0, .string y1, .int .i64 y2, .int .i64 y3, .int .i64 y4, .int .i64 y5, .int .i64 y6, .int .i64 y7, .string y8, .int .i64 y9, .int .i64 y10] 43) := ⟨_, rfl⟩
      rw [← hW4]
      have X4 := Lib.hid (show W4.heap[wr.heap.size]? = some (.cells #[.int .i64 y0, .string y1, .int .i64 y2, .int .i64 y3, .int .i64 y4, .int .i64 y5, .int .i64 y6, .int .i64 y7, .string y8, .int .i64 y9, .int .i64 y10] 43 (0, 0)) by rw [hW4]; exact heap_at _ _ _ rfl)
      have O4 := Lib.hid (show W4.ownsRow w.heap.size 49 12 u5 j ((lateL k (xl.take j)).flatMap Lt.cs) by rw [hW4]; exact HO.out.alloc _)
      have B4 := Lib.hid (show Below w.heap.size w W4 by rw [hW4]; exact bel_alloc HB.out _)
      clear hW4 c0 c1 c2 c3 c4 c5 c6 c7 c8 c9 c10 hzb
      clear HB HO
      obtain ⟨Au, cu, rfl⟩ := own_slice O4.out
      have xz := blk_lt X4.out
      have q0 := cellsAt X4.out 0
      have q1 := cellsAt X4.out 1
      have q2 := cellsAt X4.out 2
      have q3 := cellsAt X4.out 3
      have q4 := cellsAt X4.out 4
      have q5 := cellsAt X4.out 5
      have q6 := cellsAt X4.out 6
      have q7 := cellsAt X4.out 7
      have q8 := cellsAt X4.out 8
      have q9 := cellsAt X4.out 9
      have q10 := cellsAt X4.out 10
      simp at q0 q1 q2 q3 q4 q5 q6 q7 q8 q9 q10
      go_wp2_with (at_builtin; refine wpList_push _ rfl _ _ 44 rfl w.heap.size 49 i0 (ltV ⟨0, itZ⟩) 12 112 Try.underlying44 HI.out HZ0.out HZ1.out HZ2.out rfl (by decide) _ _ _ rfl O4.out #[.int .i64 k, .int .i64 y0, .string y1, .int .i64 y2, .int .i64 y3, .int .i64 y4, .int .i64 y5, .int .i64 y6, .int .i64 y7, .string y8, .int .i64 y9, .int .i64 y10] 49 rfl rfl (by intro u hu; simp at hu; rcases hu with rfl | rfl | rfl | rfl | rfl | rfl | rfl | rfl | rfl | rfl | rfl | rfl <;> rfl) (by unfold maxLen; omega) (by omega) B4.out.size ?_)
      intro v5 W5 hown5 hb5 _
      have O5 := Lib.hid hown5
      have B5 := Lib.hid (B4.out.trans hb5)
      clear hown5 hb5 q0 q1 q2 q3 q4 q5 q6 q7 q8 q9 q10 X4 xz
      go_wp2_with fail
      go_roundw
      case rel =>
        refine ⟨j + 1, by omega, by go_num, ?_, B5.out⟩
        have := O5.out
        rw [List.take_add_one, HIx.out]
        unfold lateL at this ⊢
        rw [List.map_append, List.flatMap_append]
        exact this
      case measure => simp [intOf]; omega
    · obtain rfl : j = xl.length := by omega
      go_wp2_with fail
      go_ret
      refine ⟨_, rfl, ?_, HB.out⟩
      have := HO.out
      rw [List.take_length] at this
      exact this
end Go.Proofs.Ytenpgkkefielfaa
