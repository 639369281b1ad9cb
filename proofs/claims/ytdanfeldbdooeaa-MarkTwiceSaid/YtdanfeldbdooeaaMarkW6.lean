/-
  WALKS of layer 10: back, First, Allows; what marks allow.
-/
import Derived.Test.YtdanfeldbdooeaaMarkW1
set_option linter.unusedVariables false
set_option linter.unusedSimpArgs false
namespace Go.Proofs.Ytdanfeldbdooeaa
open Go.RowKit

def Tm.cs (t : Int) : List Value := [.int .i64 t]
theorem Tm.cs_len (c : Int) : (Tm.cs c).length = 1 := rfl
/-- What is held back by inputs and by holds. -/
def backI (li : List Inp) : List Int := (li.filter (fun x => !x.idle)).map Inp.mark
def backH (lh : List Hld) : List Int := lh.map Hld.at_
theorem backI_snoc (l : List Inp) (x : Inp) : backI (l ++ [x]) = backI l ++ (if x.idle then [] else [x.mark]) := by
  unfold backI
  rw [List.filter_append, List.map_append]
  cases h : x.idle <;> simp [h]
theorem take_snoc {α : Type} {l : List α} {k : Nat} {x : α} (h : l[k]? = some x) : l.take (k + 1) = l.take k ++ [x] := by
  rw [List.take_add_one, h]; rfl
theorem info_i64 : (Try.prog.info? 2).map (fun i => (i.zero, i.size, i.bytes)) = some (some (.int .i64 0), 1, 8) := by kernel_rfl
def clampT (t : Int) : Int := min (max t 0) 1099511627776
def firstT (l : List Int) : Int := l.foldl (fun a t => min a (clampT t)) 1099511627776
def BkRel (l : List Int) (f : Nat → List Int) (w : World) (v i : Value) (wr : World) : Prop :=
  ∃ k : Nat, k ≤ l.length ∧ i = .int .i64 k ∧ wr.ownsRow w.heap.size 2 1 v (f k).length ((f k).flatMap Tm.cs) ∧ Below w.heap.size w wr
/-- A function answers a row of its own of times. -/
def BackTo (l : List Int) (w : World) (e : Ending) (w' : World) : Prop := ∃ v, e = .returned v ∧ w'.ownsRow w.heap.size 2 1 v l.length (l.flatMap Tm.cs) ∧ Below w.heap.size w w'
def BiRel (li : List Inp) (w : World) (v i : Value) (wr : World) : Prop :=
  ∃ k : Nat, k ≤ li.length ∧ i = .int .i64 k ∧ wr.ownsRow w.heap.size 2 1 v (backI (li.take k)).length ((backI (li.take k)).flatMap Tm.cs) ∧ Below w.heap.size w wr
def BhRel (lh : List Hld) (w : World) (v i : Value) (wr : World) : Prop :=
  ∃ k : Nat, k ≤ lh.length ∧ i = .int .i64 k ∧ wr.ownsRow w.heap.size 2 1 v (backH (lh.take k)).length ((backH (lh.take k)).flatMap Tm.cs) ∧ Below w.heap.size w wr
theorem backI_le (l : List Inp) : (backI l).length ≤ l.length := by unfold backI; rw [List.length_map]; exact List.length_filter_le _ _
set_option maxHeartbeats 2000000 in
theorem backI_any (li : List Inp) (v : Value) (w : World) (hv : Row Inp.cs 2 w v li) (hl : li.length ≤ 1000000) :
    Calls Try.prog 53 #[v] w (BackTo (backI li) w) := by
  obtain ⟨i0, hi, hz0, hz1, hz2⟩ := info_parts info_i64
  have HI := Lib.hid hi
  have HZ0 := Lib.hid hz0
  have HZ1 := Lib.hid hz1
  have HZ2 := Lib.hid hz2
  clear hi hz0 hz1 hz2
  have HV := Lib.hid hv
  obtain ⟨A, c, rfl, hc, -⟩ := hv
  obtain ⟨n, hn⟩ : ∃ n, li.length = n := ⟨_, rfl⟩
  rw [hn] at hl hc HV ⊢
  have Hn := Lib.hid hn
  clear hn
  go_enter Try.func53, Try.ntmps53
  go_wp2_with fail
  go_loopw [3, 8] (fun v i wr => BiRel li w v i wr) (fun _ i _ => n - (intOf i).toNat)
  case atStart => exact ⟨0, Nat.zero_le _, rfl, World.ownsRow_nil _ _ _ _, Below.refl _ _⟩
  case round =>
    obtain ⟨k, hk, rfl, hown, hbel⟩ := hrel
    rw [Hn.out] at hk
    have HO := Lib.hid hown
    have HB := Lib.hid hbel
    have hsz := hbel.size
    clear hown hbel
    by_cases hlt : k < n
    · obtain ⟨x, hi⟩ : ∃ x, li[k]? = some x := ⟨_, List.getElem?_eq_getElem (by rw [Hn.out]; exact hlt)⟩
      obtain ⟨b, o, c2, hv, -, hb, hX⟩ := HV.out.at_ hi
      injection hv with hv hv2 hv3
      subst hv
      clear hv2 hv3
      have e0 := (HB.out.cell (p := ⟨b, o + k * 2 + 0, none⟩) hb).trans (hX 0 _ rfl)
      have e1 := (HB.out.cell (p := ⟨b, o + k * 2 + 1, none⟩) hb).trans (hX 1 _ rfl)
      have hsn := take_snoc hi
      have hbs := backI_snoc (li.take k) x
      rw [← hsn] at hbs
      have hle := backI_le (li.take k)
      have hlk : (li.take k).length ≤ k := List.length_take_le _ _
      have HS := Lib.hid hbs
      clear hX hi hsn hbs
      obtain ⟨xm, xi⟩ := x
      simp only [Nat.add_zero] at e0 e1 HS
      obtain ⟨L, hL⟩ : ∃ L, backI (li.take k) = L := ⟨_, rfl⟩
      rw [hL] at hle HS
      have HO := hL ▸ HO
      clear hL
      cases xi with
      | true =>
        go_wp2_with fail
        go_roundw
        case rel => exact ⟨k + 1, by rw [Hn.out]; omega, by go_num, by rw [HS.out]; simpa using HO.out.alloc _, bel_alloc HB.out _⟩
        case measure => simp [intOf]; omega
      | false =>
        go_wp2_with (at_builtin; refine wpList_append_own _ rfl _ _ 119 rfl w.heap.size 2 i0 (.int .i64 0) 1 8 Try.underlying119 HI.out HZ0.out HZ1.out HZ2.out rfl (by decide) _ _ _ rfl ((HO.out.alloc _).alloc _) ⟨wr.heap.size + 1, 0, none⟩ 1 1 [.int .i64 xm] rfl rfl ?c1 ?c2 ?c3 ?c4 ?c5 ?_)
        case c1 =>
          intro j u hj
          match j, hj with
          | 0, hj => simp at hj; subst hj; simp [Addr.add]
        case c2 => intro u hu; simp at hu; subst hu; rfl
        case c3 => unfold maxLen; omega
        case c4 => omega
        case c5 => simp; omega
        intro v' W3 hown3 hgrow3 _
        have HO3 := Lib.hid hown3
        have HW3 := Lib.hid ((bel_alloc (bel_alloc HB.out _) _).grown hgrow3 (by simp; omega) (fun q hq => (HO.out.lt _ hq).1))
        clear hown3 hgrow3
        go_wp2_with fail
        go_roundw
        case rel =>
          refine ⟨k + 1, by rw [Hn.out]; omega, by go_num, ?_, HW3.out⟩
          rw [HS.out]
          simp only [Bool.false_eq_true, if_false, List.length_append, List.flatMap_append]
          exact HO3.out
        case measure => simp [intOf]; omega
    · have hkn : k = n := by omega
      subst hkn
      go_wp2_with fail
      go_ret
      have h := HO.out
      rw [List.take_of_length_le (by rw [Hn.out]; exact Nat.le_refl _)] at h
      exact ⟨_, rfl, h, HB.out⟩
end Go.Proofs.Ytdanfeldbdooeaa
