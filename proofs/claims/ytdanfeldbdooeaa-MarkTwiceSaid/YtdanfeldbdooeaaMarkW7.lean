/-
  WALKS of layer 10: back of holds, Clamp, First, first, Clone.
-/
import Derived.Test.YtdanfeldbdooeaaMarkW6
set_option linter.unusedVariables false
set_option linter.unusedSimpArgs false
namespace Go.Proofs.Ytdanfeldbdooeaa
open Go.RowKit

theorem backH_snoc (l : List Hld) (x : Hld) : backH (l ++ [x]) = backH l ++ [x.at_] := by unfold backH; simp
theorem backH_le (l : List Hld) : (backH l).length ≤ l.length := by unfold backH; rw [List.length_map]; exact Nat.le_refl _
set_option maxHeartbeats 2000000 in
theorem backH_any (lh : List Hld) (v : Value) (w : World) (hv : Row Hld.cs 2 w v lh) (hl : lh.length ≤ 1000000) :
    Calls Try.prog 54 #[v] w (BackTo (backH lh) w) := by
  obtain ⟨i0, hi, hz0, hz1, hz2⟩ := info_parts info_i64
  have HI := Lib.hid hi
  have HZ0 := Lib.hid hz0
  have HZ1 := Lib.hid hz1
  have HZ2 := Lib.hid hz2
  clear hi hz0 hz1 hz2
  have HV := Lib.hid hv
  obtain ⟨A, c, rfl, hc, -⟩ := hv
  obtain ⟨n, hn⟩ : ∃ n, lh.length = n := ⟨_, rfl⟩
  rw [hn] at hl hc HV ⊢
  have Hn := Lib.hid hn
  clear hn
  go_enter Try.func54, Try.ntmps54
  go_wp2_with fail
  go_loopw [3, 8] (fun v i wr => BhRel lh w v i wr) (fun _ i _ => n - (intOf i).toNat)
  case atStart => exact ⟨0, Nat.zero_le _, rfl, World.ownsRow_nil _ _ _ _, Below.refl _ _⟩
  case round =>
    obtain ⟨k, hk, rfl, hown, hbel⟩ := hrel
    rw [Hn.out] at hk
    have HO := Lib.hid hown
    have HB := Lib.hid hbel
    have hsz := hbel.size
    clear hown hbel
    by_cases hlt : k < n
    · obtain ⟨x, hi⟩ : ∃ x, lh[k]? = some x := ⟨_, List.getElem?_eq_getElem (by rw [Hn.out]; exact hlt)⟩
      obtain ⟨b, o, c2, hv, -, hb, hX⟩ := HV.out.at_ hi
      injection hv with hv hv2 hv3
      subst hv
      clear hv2 hv3
      have e0 := (HB.out.cell (p := ⟨b, o + k * 2 + 0, none⟩) hb).trans (hX 0 _ rfl)
      have e1 := (HB.out.cell (p := ⟨b, o + k * 2 + 1, none⟩) hb).trans (hX 1 _ rfl)
      have hsn := take_snoc hi
      have hbs := backH_snoc (lh.take k) x
      rw [← hsn] at hbs
      have hle := backH_le (lh.take k)
      have hlk : (lh.take k).length ≤ k := List.length_take_le _ _
      have HS := Lib.hid hbs
      clear hX hi hsn hbs
      obtain ⟨xn, xa⟩ := x
      simp only [Nat.add_zero] at e0 e1 HS
      obtain ⟨L, hL⟩ : ∃ L, backH (lh.take k) = L := ⟨_, rfl⟩
      rw [hL] at hle HS
      have HO := hL ▸ HO
      clear hL
      go_wp2_with (at_builtin; refine wpList_append_own _ rfl _ _ 119 rfl w.heap.size 2 i0 (.int .i64 0) 1 8 Try.underlying119 HI.out HZ0.out HZ1.out HZ2.out rfl (by decide) _ _ _ rfl ((HO.out.alloc _).alloc _) ⟨wr.heap.size + 1, 0, none⟩ 1 1 [.int .i64 xa] rfl rfl ?c1 ?c2 ?c3 ?c4 ?c5 ?_)
      case c1 =>
        intro j u hj
        match j, hj with
        | 0, hj => simp at hj; subst hj; simp [Addr.add]
      case c2 => intro u hu; simp at hu; subst hu; rfl
      case c3 => unfold maxLen; omega
      case c4 => omega
      case c5 => simp; omega
      intro v' W3 hown3 hgrow3 _
      have HO3 := Lib.hid hown3
      have HW3 := Lib.hid ((bel_alloc (bel_alloc HB.out _) _).grown hgrow3 (by simp; omega) (fun q hq => (HO.out.lt _ hq).1))
      clear hown3 hgrow3
      go_wp2_with fail
      go_roundw
      case rel =>
        refine ⟨k + 1, by rw [Hn.out]; omega, by go_num, ?_, HW3.out⟩
        rw [HS.out]
        simp only [List.length_append, List.flatMap_append]
        exact HO3.out
      case measure => simp [intOf]; omega
    · have hkn : k = n := by omega
      subst hkn
      go_wp2_with fail
      go_ret
      have h := HO.out
      rw [List.take_of_length_le (by rw [Hn.out]; exact Nat.le_refl _)] at h
      exact ⟨_, rfl, h, HB.out⟩

theorem clamp_any (t : Int) (w : World) : Calls Try.prog 48 #[.int .i64 t] w fun e w' => e = .returned (.int .i64 (clampT t)) ∧ w = w' := by
  go_enter Try.func48, Try.ntmps48
  go_wp2
  go_ret
  exact ⟨rfl, rfl⟩
theorem rclamp_any (t : Int) (w : World) : Calls Try.prog 71 #[.int .i64 t] w fun e w' => e = .returned (.int .i64 (clampT t)) ∧ w = w' := by
  have h1 : t < 0 → clampT t = 0 := fun h => by unfold clampT; omega
  have h2 : 1099511627776 < t → clampT t = 1099511627776 := fun h => by unfold clampT; omega
  have h3 : ¬ t < 0 → ¬ 1099511627776 < t → clampT t = t := fun h h' => by unfold clampT; omega
  obtain ⟨c, hc⟩ : ∃ c, clampT t = c := ⟨_, rfl⟩
  rw [hc] at h1 h2 h3 ⊢
  clear hc
  by_cases a : t < 0
  · have h := h1 a
    subst h
    clear h1 h2 h3
    go_enter Try.func71, Try.ntmps71
    go_wp2_with fail
    go_ret
    exact ⟨rfl, rfl⟩
  · by_cases b : 1099511627776 < t
    · have h := h2 b
      subst h
      clear h1 h2 h3
      go_enter Try.func71, Try.ntmps71
      go_wp2_with fail
      go_ret
      exact ⟨rfl, rfl⟩
    · have h := h3 a b
      subst h
      clear h1 h2 h3
      go_enter Try.func71, Try.ntmps71
      go_wp2_with fail
      go_ret
      exact ⟨rfl, rfl⟩
theorem firstT_snoc (l : List Int) (t : Int) : firstT (l ++ [t]) = min (firstT l) (clampT t) := by unfold firstT; rw [List.foldl_append]; rfl
theorem firstT_rng (l : List Int) : 0 ≤ firstT l ∧ firstT l ≤ 1099511627776 := by
  unfold firstT
  have : ∀ (l : List Int) (a : Int), 0 ≤ a → a ≤ 1099511627776 → 0 ≤ l.foldl (fun a t => min a (clampT t)) a ∧ l.foldl (fun a t => min a (clampT t)) a ≤ 1099511627776 := by
    intro l
    induction l with
    | nil => intro a h0 h1; exact ⟨h0, h1⟩
    | cons t l ih => intro a h0 h1; exact ih (min a (clampT t)) (by unfold clampT; omega) (by unfold clampT; omega)
  exact this l _ (by decide) (by decide)
def FiRel (l : List Int) (w : World) (v i : Value) (wr : World) : Prop := ∃ k : Nat, k ≤ l.length ∧ i = .int .i64 k ∧ v = .int .i64 (firstT (l.take k)) ∧ wr = w
set_option maxHeartbeats 1000000 in
set_option maxRecDepth 100000 in
theorem tfirst_any (l : List Int) (v : Value) (w : World) (hv : Row Tm.cs 1 w v l) (hl : l.length ≤ 4000000) :
    Calls Try.prog 82 #[v] w fun e w' => e = .returned (.int .i64 (firstT l)) ∧ w = w' := by
  have HV := Lib.hid hv
  obtain ⟨A, c, rfl, hc, -⟩ := hv
  obtain ⟨n, hn⟩ : ∃ n, l.length = n := ⟨_, rfl⟩
  rw [hn] at hl hc HV ⊢
  have Hn := Lib.hid hn
  clear hn
  go_enter Try.func82, Try.ntmps82
  go_wp2_with fail
  go_loopw [3, 8] (fun v i wr => FiRel l w v i wr) (fun _ i _ => n - (intOf i).toNat)
  case atStart => exact ⟨0, Nat.zero_le _, rfl, rfl, rfl⟩
  case round =>
    obtain ⟨k, hk, rfl, rfl, rfl⟩ := hrel
    rw [Hn.out] at hk
    have hr := firstT_rng (l.take k)
    obtain ⟨F, hF⟩ : ∃ F, firstT (l.take k) = F := ⟨_, rfl⟩
    rw [hF] at hr ⊢
    have HF := Lib.hid hF
    have Hr := Lib.hid hr
    clear hF hr
    by_cases hlt : k < n
    · obtain ⟨x, hi⟩ : ∃ x, l[k]? = some x := ⟨_, List.getElem?_eq_getElem (by rw [Hn.out]; exact hlt)⟩
      obtain ⟨b, o, c2, hv, -, hb, hX⟩ := HV.out.at_ hi
      injection hv with hv hv2 hv3
      subst hv
      clear hv2 hv3
      have e0 := hX 0 _ rfl
      have HS := Lib.hid (firstT_snoc (l.take k) x)
      have HT := Lib.hid (take_snoc hi)
      clear hX hi
      simp only [Nat.add_zero, Nat.mul_one] at e0
      go_wp2_with fail
      refine (clamp_any _ _).mono ?_
      rintro e w' ⟨rfl, rfl⟩
      go_wp2_with fail
      go_roundw
      case rel => exact ⟨k + 1, by rw [Hn.out]; omega, by go_num, by rw [HT.out, HS.out, HF.out], rfl⟩
      case measure => simp [intOf]; omega
    · have hkn : k = n := by omega
      subst hkn
      go_wp2_with fail
      go_ret
      have h := HF.out
      rw [List.take_of_length_le (by rw [Hn.out]; exact Nat.le_refl _)] at h
      exact ⟨by rw [h]; rfl, rfl⟩

theorem Inp.cs_one {l : List Inp} : ∀ u ∈ l.flatMap Inp.cs, u.oneCell' = true := by
  intro u hu
  obtain ⟨x, -, hx⟩ := List.mem_flatMap.1 hu
  simp [Inp.cs] at hx
  rcases hx with rfl | rfl <;> rfl
theorem Hld.cs_one {l : List Hld} : ∀ u ∈ l.flatMap Hld.cs, u.oneCell' = true := by
  intro u hu
  obtain ⟨x, -, hx⟩ := List.mem_flatMap.1 hu
  simp [Hld.cs] at hx
  rcases hx with rfl | rfl <;> rfl
theorem info_in' : (Try.prog.info? 45).map (fun i => (i.zero, i.size, i.bytes)) = some (some (.agg #[.int .i64 0, .bool false]), 2, 16) := by kernel_rfl
theorem info_hd : (Try.prog.info? 47).map (fun i => (i.zero, i.size, i.bytes)) = some (some (.agg #[.int .i64 0, .int .i64 0]), 2, 16) := by kernel_rfl

def ClITo (l : List Inp) (w : World) (e : Ending) (w' : World) : Prop := ∃ v, e = .returned v ∧ w'.ownsRow w.heap.size 45 2 v l.length (l.flatMap Inp.cs) ∧ Below w.heap.size w w'
set_option maxHeartbeats 1000000 in
set_option maxRecDepth 100000 in
theorem cloneI_any (l : List Inp) (v : Value) (w : World) (hv : Row Inp.cs 2 w v l) (hl : l.length ≤ 1000000) :
    Calls Try.prog 74 #[v] w (ClITo l w) := by
  obtain ⟨i0, hi, hz0, hz1, hz2⟩ := info_parts info_in'
  have HV := Lib.hid hv
  obtain ⟨A, c, rfl, hc, hA⟩ := hv
  have HA := Lib.hid hA
  have HI := Lib.hid hi
  have HZ0 := Lib.hid hz0
  have HZ1 := Lib.hid hz1
  have HZ2 := Lib.hid hz2
  clear hi hz0 hz1 hz2 hA
  have heq := fun W : World => Lib.run_eql_slice_nil (P := Try.prog) W 22 45 A l.length c 0 0 Try.underlying22
  cases A with
  | none =>
    have hl0 : l = [] := by
      cases l with
      | nil => rfl
      | cons a l =>
        obtain ⟨b, o, h, -⟩ := HA.out (by simp)
        cases h
    subst hl0
    simp only [List.length_nil] at heq ⊢
    go_enter Try.func74, Try.ntmps74
    go_wp2_with fail
    go_ret
    exact ⟨_, rfl, World.ownsRow_nil _ _ _ _, Below.refl _ _⟩
  | some ad =>
    go_enter Try.func74, Try.ntmps74
    go_wp2_with (at_builtin; refine wpList_append_own _ rfl _ _ 22 rfl w.heap.size 45 i0 (.agg #[.int .i64 0, .bool false]) 2 16 Try.underlying22 HI.out HZ0.out HZ1.out HZ2.out rfl (by decide) _ _ _ rfl (own_empty w w.heap.size 45 2 (Nat.le_refl _)) ad l.length c (l.flatMap Inp.cs) rfl (flat_len Inp.cs_len l) ?c1 ?c2 ?c3 ?c4 ?c5 ?_)
    case c1 =>
      intro j u hj
      have h0 : 0 < l.length := by
        cases l with
        | nil => simp at hj
        | cons a l => simp
      obtain ⟨b, o, h, hb, hx⟩ := HA.out h0
      obtain ⟨i, x, j', h1, h2, rfl⟩ := flat_inv Inp.cs_len hj
      injection h with h
      rw [h, add_at, ← Nat.add_assoc]
      exact (World.cell?_alloc_lt w _ _ hb).trans (hx i x j' u h1 h2)
    case c2 => intro u hu; exact Inp.cs_one u hu
    case c3 => unfold maxLen; omega
    case c4 => omega
    case c5 => simp
    intro v' W3 hown3 hgrow3 _
    have HO3 := Lib.hid hown3
    have HW3 := Lib.hid ((bel_alloc (Below.refl _ w) (.cells #[] 45)).grown hgrow3 (by simp) (fun q hq => by simp [Value.ownBlock] at hq; omega))
    clear hown3 hgrow3
    go_wp2_with fail
    go_ret
    refine ⟨_, rfl, ?_, HW3.out⟩
    simpa using HO3.out

def ClHTo (l : List Hld) (w : World) (e : Ending) (w' : World) : Prop := ∃ v, e = .returned v ∧ w'.ownsRow w.heap.size 47 2 v l.length (l.flatMap Hld.cs) ∧ Below w.heap.size w w'
set_option maxHeartbeats 1000000 in
set_option maxRecDepth 100000 in
theorem cloneH_any (l : List Hld) (v : Value) (w : World) (hv : Row Hld.cs 2 w v l) (hl : l.length ≤ 1000000) :
    Calls Try.prog 75 #[v] w (ClHTo l w) := by
  obtain ⟨i0, hi, hz0, hz1, hz2⟩ := info_parts info_hd
  have HV := Lib.hid hv
  obtain ⟨A, c, rfl, hc, hA⟩ := hv
  have HA := Lib.hid hA
  have HI := Lib.hid hi
  have HZ0 := Lib.hid hz0
  have HZ1 := Lib.hid hz1
  have HZ2 := Lib.hid hz2
  clear hi hz0 hz1 hz2 hA
  have heq := fun W : World => Lib.run_eql_slice_nil (P := Try.prog) W 23 47 A l.length c 0 0 Try.underlying23
  cases A with
  | none =>
    have hl0 : l = [] := by
      cases l with
      | nil => rfl
      | cons a l =>
        obtain ⟨b, o, h, -⟩ := HA.out (by simp)
        cases h
    subst hl0
    simp only [List.length_nil] at heq ⊢
    go_enter Try.func75, Try.ntmps75
    go_wp2_with fail
    go_ret
    exact ⟨_, rfl, World.ownsRow_nil _ _ _ _, Below.refl _ _⟩
  | some ad =>
    go_enter Try.func75, Try.ntmps75
    go_wp2_with (at_builtin; refine wpList_append_own _ rfl _ _ 23 rfl w.heap.size 47 i0 (.agg #[.int .i64 0, .int .i64 0]) 2 16 Try.underlying23 HI.out HZ0.out HZ1.out HZ2.out rfl (by decide) _ _ _ rfl (own_empty w w.heap.size 47 2 (Nat.le_refl _)) ad l.length c (l.flatMap Hld.cs) rfl (flat_len Hld.cs_len l) ?c1 ?c2 ?c3 ?c4 ?c5 ?_)
    case c1 =>
      intro j u hj
      have h0 : 0 < l.length := by
        cases l with
        | nil => simp at hj
        | cons a l => simp
      obtain ⟨b, o, h, hb, hx⟩ := HA.out h0
      obtain ⟨i, x, j', h1, h2, rfl⟩ := flat_inv Hld.cs_len hj
      injection h with h
      rw [h, add_at, ← Nat.add_assoc]
      exact (World.cell?_alloc_lt w _ _ hb).trans (hx i x j' u h1 h2)
    case c2 => intro u hu; exact Hld.cs_one u hu
    case c3 => unfold maxLen; omega
    case c4 => omega
    case c5 => simp
    intro v' W3 hown3 hgrow3 _
    have HO3 := Lib.hid hown3
    have HW3 := Lib.hid ((bel_alloc (Below.refl _ w) (.cells #[] 47)).grown hgrow3 (by simp) (fun q hq => by simp [Value.ownBlock] at hq; omega))
    clear hown3 hgrow3
    go_wp2_with fail
    go_ret
    refine ⟨_, rfl, ?_, HW3.out⟩
    simpa using HO3.out
end Go.Proofs.Ytdanfeldbdooeaa
