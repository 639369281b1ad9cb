/-
  WALKS of layer 17: texts compared, binary search, find, ready, Clone.
-/
import Derived.Test.YtlboehpgpbchhaaStoreW3
set_option linter.unusedVariables false
set_option linter.unusedSimpArgs false
namespace Go.Proofs.Ytlboehpgpbchhaa
open Go.RowKit

def cmpS (a b : ByteArray) : Int := Lib.compareBytes a.data.toList b.data.toList
set_option maxRecDepth 100000 in
theorem cmps_any (a b : ByteArray) (w : World) : Calls Try.prog 78 #[.string a, .string b] w fun e w' => e = .returned (.int .i64 (cmpS a b)) ∧ w' = w := by
  go_enter Try.func78, Try.ntmps78
  go_wp2_with fail
  rw [run_callFunc_extern Try.func90 (by kernel_rfl) (by kernel_rfl) (by kernel_rfl) (e := Extern.BytealgCompare.compare) (by kernel_rfl), Lib.run_compareString]
  simp only [Result.andThen]
  rw [Oper.upon_value]
  go_wp2_with fail
  go_ret
  exact ⟨rfl, rfl⟩
theorem comp_any (a b : ByteArray) (w : World) : Calls Try.prog 63 #[.string a, .string b] w fun e w' => e = .returned (.int .i64 (cmpS a b)) ∧ w' = w := by
  go_enter Try.func63, Try.ntmps63
  go_wp2_with fail
  refine (cmps_any a b _).mono ?_
  rintro e w1 ⟨rfl, rfl⟩
  go_wp2_with fail
  go_ret
  exact ⟨rfl, rfl⟩
theorem findc_any (c : Cl) (t : ByteArray) (w : World) : Calls Try.prog 62 #[.agg #[.string c.n, .string c.b], .string t] w fun e w' => e = .returned (.int .i64 (cmpS c.n t)) ∧ Below w.heap.size w w' := by
  obtain ⟨n, b⟩ := c
  simp only
  go_enter Try.func62, Try.ntmps62
  go_wp2_with fail
  refine (comp_any n t _).mono ?_
  rintro e w1 ⟨rfl, rfl⟩
  go_wp2_with fail
  go_ret
  exact ⟨rfl, bel_alloc (Below.refl _ _) _⟩
def Asc (l : List Cl) : Prop := ∀ (a b : Nat) (x y : Cl), a < b → l[a]? = some x → l[b]? = some y → ltS x.n y.n = true
theorem asc_of {l : List Cl} (h : Rise l) : Asc l := by
  intro a b x y hab ha hb
  obtain ⟨h1, rfl⟩ := List.getElem?_eq_some_iff.1 ha
  obtain ⟨h2, rfl⟩ := List.getElem?_eq_some_iff.1 hb
  exact List.pairwise_iff_getElem.1 h a b h1 h2 hab
def BsRel (l : List Cl) (t : ByteArray) (w : World) (vi vj : Value) (wr : World) : Prop :=
  ∃ i j : Nat, i ≤ j ∧ j ≤ l.length ∧ vi = .int .i64 i ∧ vj = .int .i64 j ∧ (∀ (a : Nat) (x : Cl), a < i → l[a]? = some x → ltS x.n t = true) ∧ (∀ (a : Nat) (x : Cl), j ≤ a → l[a]? = some x → ltS x.n t = false) ∧ Below w.heap.size w wr
def SearchTo (l : List Cl) (t : ByteArray) (w : World) (e : Ending) (w' : World) : Prop := ∃ i : Nat, i ≤ l.length ∧ e = .returned (.tuple #[.int .i64 i, .bool (fndS l i t)]) ∧ atS l t i ∧ Below w.heap.size w w'
theorem atS_of {l : List Cl} {t : ByteArray} {i : Nat} (h1 : ∀ (a : Nat) (x : Cl), a < i → l[a]? = some x → ltS x.n t = true) (h2 : ∀ (a : Nat) (x : Cl), i ≤ a → l[a]? = some x → ltS x.n t = false) : atS l t i := by
  constructor
  · intro c hc
    obtain ⟨a, ha⟩ := List.getElem?_of_mem hc
    rw [List.getElem?_take] at ha
    split at ha
    · exact h1 a c (by assumption) ha
    · cases ha
  · intro c hc
    obtain ⟨a, ha⟩ := List.getElem?_of_mem hc
    rw [List.getElem?_drop] at ha
    exact h2 (i + a) c (by omega) ha
set_option maxHeartbeats 2000000 in
theorem search_any (l : List Cl) (t : ByteArray) (v : Value) (w : World) (hv : Row Cl.cs 2 w v l) (hl : l.length ≤ 1000000) (hs : Rise l) :
    Calls Try.prog 61 #[v, .string t, .func (.func 62) #[] #[]] w (SearchTo l t w) := by
  have HV := Lib.hid hv
  obtain ⟨A, c, rfl, hc, -⟩ := hv
  have HS := Lib.hid (asc_of hs)
  obtain ⟨n, hn⟩ : ∃ n, l.length = n := ⟨_, rfl⟩
  rw [hn] at hl hc HV ⊢
  have Hn := Lib.hid hn
  clear hn hs
  go_enter Try.func61, Try.ntmps61
  go_wp2_with fail
  go_loopw [9, 10] (fun vi vj wr => BsRel l t w vi vj wr) (fun vi vj _ => (intOf vj).toNat - (intOf vi).toNat)
  case atStart => exact ⟨0, n, Nat.zero_le _, by rw [Hn.out]; exact Nat.le_refl _, rfl, rfl, (fun a x h => absurd h (Nat.not_lt_zero _)), (fun a x h hx => by
    rw [List.getElem?_eq_none (by rw [Hn.out]; exact h)] at hx; cases hx), Below.refl _ _⟩
  case round =>
    obtain ⟨i, j, hij, hj, rfl, rfl, h1, h2, hbel⟩ := hrel
    rw [Hn.out] at hj
    have H1 := Lib.hid h1
    have H2 := Lib.hid h2
    have HB := Lib.hid hbel
    clear h1 h2 hbel
    by_cases hlt : i < j
    · obtain ⟨m, hm⟩ : ∃ m, m = (i + j) / 2 := ⟨_, rfl⟩
      have hmi : i ≤ m := by omega
      have hmj : m < j := by omega
      obtain ⟨x, hx⟩ : ∃ x, l[m]? = some x := ⟨_, List.getElem?_eq_getElem (by rw [Hn.out]; omega)⟩
      obtain ⟨b, o, c2, hv, -, hb, hX⟩ := HV.out.at_ hx
      injection hv with hv hv2 hv3
      subst hv
      clear hv2 hv3
      have e0 := (HB.out.cell (p := ⟨b, o + m * 2 + 0, none⟩) hb).trans (hX 0 _ rfl)
      have e1 := (HB.out.cell (p := ⟨b, o + m * 2 + 1, none⟩) hb).trans (hX 1 _ rfl)
      have HX := Lib.hid hx
      have HM := Lib.hid hm
      clear hX hx
      have HC := Lib.hid (fun W => findc_any x t W)
      obtain ⟨xn, xb⟩ := x
      simp only [Nat.add_zero] at e0 e1 HC
      rw [hm] at e0 e1
      clear hm
      go_wp2_with fail
      refine (HC.out _).mono ?_
      rintro e w2 ⟨rfl, hb2⟩
      have HB2 := Lib.hid (bThen HB.out hb2)
      clear hb2 HB e0 e1
      obtain ⟨cv, hcv⟩ : ∃ cv, cmpS xn t = cv := ⟨_, rfl⟩
      rw [hcv]
      by_cases hc2 : ltS xn t = true
      · have hneg : cv < 0 := by rw [← hcv]; exact (cmpS_lt _ _).2 hc2
        have HC2 := Lib.hid hc2
        clear hc2 hcv
        go_wp2_with fail
        go_roundw
        case rel =>
          refine ⟨m + 1, j, by omega, by rw [Hn.out]; omega, congrArg (Value.int .i64) (by have := HM.out; omega), rfl, fun a x h hx => ?_, H2.out, HB2.out⟩
          rcases Nat.lt_or_ge a m with h3 | h3
          · exact ltS_trans (HS.out a m x _ h3 hx HX.out) HC2.out
          · obtain rfl : a = m := by omega
            rw [HX.out] at hx
            injection hx with hx
            rw [← hx]; exact HC2.out
        case measure => simp [intOf]; omega
      · have hneg : ¬ cv < 0 := fun h => hc2 ((cmpS_lt _ _).1 (by rw [← hcv] at h; exact h))
        have HC2 := Lib.hid (show ltS xn t = false by simpa using hc2)
        clear hc2 hcv
        go_wp2_with fail
        go_roundw
        case rel =>
          refine ⟨i, m, by omega, by rw [Hn.out]; omega, rfl, congrArg (Value.int .i64) (by have := HM.out; omega), H1.out, fun a x h hx => ?_, HB2.out⟩
          rcases Nat.lt_or_ge m a with h3 | h3
          · have h5 := HS.out m a _ x h3 HX.out hx
            cases h6 : ltS x.n t with
            | false => rfl
            | true => have := ltS_trans h5 h6; rw [show (Cl.mk xn xb).n = xn from rfl, HC2.out] at this; cases this
          · obtain rfl : a = m := by omega
            rw [HX.out] at hx
            injection hx with hx
            rw [← hx]; exact HC2.out
        case measure => simp [intOf]; omega
    · have hije : i = j := by omega
      subst hije
      by_cases hin : i < n
      · obtain ⟨x, hx⟩ : ∃ x, l[i]? = some x := ⟨_, List.getElem?_eq_getElem (by rw [Hn.out]; omega)⟩
        obtain ⟨b, o, c2, hv, -, hb, hX⟩ := HV.out.at_ hx
        injection hv with hv hv2 hv3
        subst hv
        clear hv2 hv3
        have e0 := (HB.out.cell (p := ⟨b, o + i * 2 + 0, none⟩) hb).trans (hX 0 _ rfl)
        have e1 := (HB.out.cell (p := ⟨b, o + i * 2 + 1, none⟩) hb).trans (hX 1 _ rfl)
        have hfd : fndS l i t = eqB x.n t := by unfold fndS; rw [hx]
        have HF := Lib.hid hfd
        clear hX hx hfd
        have HC := Lib.hid (fun W => findc_any x t W)
        obtain ⟨xn, xb⟩ := x
        simp only [Nat.add_zero] at e0 e1 HC HF
        go_wp2_with fail
        refine (HC.out _).mono ?_
        rintro e w2 ⟨rfl, hb2⟩
        have HB2 := Lib.hid (bThen HB.out hb2)
        clear hb2 HB e0 e1
        obtain ⟨cv, hcv⟩ : ∃ cv, cmpS xn t = cv := ⟨_, rfl⟩
        rw [hcv]
        obtain ⟨q, hq⟩ : ∃ q : Bool, (cv == 0) = q := ⟨_, rfl⟩
        have hq2 : eqB xn t = q := by
          rw [← hq, ← hcv, Bool.eq_iff_iff, beq_iff_eq, eqB_iff]; exact (cmpS_eq _ _).symm
        have HQ := Lib.hid hq2
        clear hq2 hcv
        go_wp2_with fail
        go_ret2
        exact ⟨i, by rw [Hn.out]; omega, by rw [HF.out, HQ.out]; rfl, atS_of H1.out H2.out, HB2.out⟩
      · have hfd : fndS l i t = false := by unfold fndS; rw [List.getElem?_eq_none (by rw [Hn.out]; omega)]
        have HF := Lib.hid hfd
        clear hfd
        go_wp2_with fail
        go_ret2
        exact ⟨i, by rw [Hn.out]; omega, by rw [HF.out]; rfl, atS_of H1.out H2.out, HB.out⟩
set_option maxHeartbeats 1000000 in
theorem find_any (l : List Cl) (t : ByteArray) (v : Value) (w : World) (hv : Row Cl.cs 2 w v l) (hl : l.length ≤ 1000000) (hs : Rise l) :
    Calls Try.prog 45 #[v, .string t] w (SearchTo l t w) := by
  have HV := Lib.hid hv
  have HC := Lib.hid (fun W (h : Row Cl.cs 2 W v l) => search_any l t v W h hl hs)
  clear hv
  go_enter Try.func45, Try.ntmps45
  go_wp2_with fail
  refine (HC.out _ HV.out).mono ?_
  rintro e w1 ⟨i, hi, rfl, ha, hb⟩
  have HA := Lib.hid ha
  have HI := Lib.hid hi
  have HB := Lib.hid hb
  clear ha hi hb
  go_wp2_with fail
  go_ret2
  exact ⟨i, HI.out, rfl, HA.out, HB.out⟩
def readyE (l f : List Cl) (d : Bool) : Int := if rightB l f = true then (if d = true then 170 else 0) else 1
set_option maxHeartbeats 1000000 in
theorem ready_any (l f : List Cl) (d : Bool) (v u : Value) (w : World) (hv : OkRow w v l) (hu : OkRow w u f) (r : Int) (hr : readyE l f d = r) :
    Calls Try.prog 37 #[.agg #[v, u, .bool d]] w fun e w' => e = .returned (.int .i64 r) ∧ Below w.heap.size w w' := by
  obtain ⟨b, hb⟩ : ∃ b, rightB l f = b := ⟨_, rfl⟩
  have HV := Lib.hid hv
  have HU := Lib.hid hu
  have HC := Lib.hid (fun W h1 h2 => sright_any l f d v u W h1 h2 b hb)
  unfold readyE at hr
  rw [hb] at hr
  obtain ⟨⟨A, c, rfl, -⟩, -, -⟩ := hv
  obtain ⟨⟨A', c', rfl, -⟩, -, -⟩ := hu
  obtain ⟨m, hm⟩ : ∃ m, l.length = m := ⟨_, rfl⟩
  obtain ⟨m2, hm2⟩ : ∃ m, f.length = m := ⟨_, rfl⟩
  rw [hm] at HV HC ⊢
  rw [hm2] at HU HC ⊢
  clear hm hm2 hb
  have O1 := Lib.hid (fun W (hb : Below w.heap.size w W) => (⟨HV.out.1.below hb, HV.out.2⟩ : OkRow W _ l))
  have O2 := Lib.hid (fun W (hb : Below w.heap.size w W) => (⟨HU.out.1.below hb, HU.out.2⟩ : OkRow W _ f))
  go_enter Try.func37, Try.ntmps37
  go_wp2_with fail
  have hb0 := bel_alloc (Below.refl w.heap.size w) (.cells #[.slice A m c, .slice A' m2 c', .bool d] 24)
  refine (HC.out _ (O1.out _ hb0) (O2.out _ hb0)).mono ?_
  rintro e w1 ⟨rfl, hb1⟩
  have BS := heap_below (heap_at w (.cells #[.slice A m c, .slice A' m2 c', .bool d] 24) _ rfl) hb1
  have BW := Lib.hid (bThen hb0 hb1)
  have zs := blk_lt BS
  have s2 := cellsAt BS 2
  simp at s2
  clear hb0 hb1
  cases b with
  | false =>
    simp only [Bool.false_eq_true, if_false] at hr
    subst hr
    go_wp2_with fail
    go_ret
    exact ⟨rfl, BW.out⟩
  | true =>
    cases d with
    | true =>
      simp only [if_true] at hr
      subst hr
      go_wp2_with fail
      go_ret
      exact ⟨rfl, BW.out⟩
    | false =>
      simp only [Bool.false_eq_true, if_false, if_true] at hr
      subst hr
      go_wp2_with fail
      go_ret
      exact ⟨rfl, BW.out⟩
theorem Cl.cs_one {l : List Cl} : ∀ u ∈ l.flatMap Cl.cs, u.oneCell' = true := by
  intro u hu
  obtain ⟨x, -, hx⟩ := List.mem_flatMap.1 hu
  simp [Cl.cs] at hx
  rcases hx with rfl | rfl <;> rfl
def ClTo (l : List Cl) (w : World) (e : Ending) (w' : World) : Prop := ∃ v, e = .returned v ∧ w'.ownsRow w.heap.size 43 2 v l.length (l.flatMap Cl.cs) ∧ Below w.heap.size w w'
set_option maxHeartbeats 1000000 in
set_option maxRecDepth 100000 in
theorem clone_any (l : List Cl) (v : Value) (w : World) (hv : Row Cl.cs 2 w v l) (hl : l.length ≤ 1000000) :
    Calls Try.prog 36 #[v] w (ClTo l w) := by
  obtain ⟨i0, hi, hz0, hz1, hz2⟩ := info_parts info_cl
  have HV := Lib.hid hv
  obtain ⟨A, c, rfl, hc, hA⟩ := hv
  have HA := Lib.hid hA
  have HI := Lib.hid hi
  have HZ0 := Lib.hid hz0
  have HZ1 := Lib.hid hz1
  have HZ2 := Lib.hid hz2
  clear hi hz0 hz1 hz2 hA
  have heq := fun W : World => Lib.run_eql_slice_nil (P := Try.prog) W 22 43 A l.length c 0 0 Try.underlying22
  cases A with
  | none =>
    have hl0 : l = [] := by
      cases l with
      | nil => rfl
      | cons a l =>
        obtain ⟨b, o, h, -⟩ := HA.out (by simp)
        cases h
    subst hl0
    simp only [List.length_nil] at heq ⊢
    go_enter Try.func36, Try.ntmps36
    go_wp2_with fail
    go_ret
    exact ⟨_, rfl, World.ownsRow_nil _ _ _ _, Below.refl _ _⟩
  | some ad =>
    go_enter Try.func36, Try.ntmps36
    go_wp2_with (at_builtin; refine wpList_append_own _ rfl _ _ 22 rfl w.heap.size 43 i0 (.agg #[.string ⟨#[]⟩, .string ⟨#[]⟩]) 2 32 Try.underlying22 HI.out HZ0.out HZ1.out HZ2.out rfl (by decide) _ _ _ rfl (own_empty w w.heap.size 43 2 (Nat.le_refl _)) ad l.length c (l.flatMap Cl.cs) rfl (flat_len Cl.cs_len l) ?c1 ?c2 ?c3 ?c4 ?c5 ?_)
    case c1 =>
      intro j u hj
      have h0 : 0 < l.length := by
        cases l with
        | nil => simp at hj
        | cons a l => simp
      obtain ⟨b, o, h, hb, hx⟩ := HA.out h0
      obtain ⟨i, x, j', h1, h2, rfl⟩ := flat_inv Cl.cs_len hj
      injection h with h
      rw [h, add_at, ← Nat.add_assoc]
      exact (World.cell?_alloc_lt w _ _ hb).trans (hx i x j' u h1 h2)
    case c2 => intro u hu; exact Cl.cs_one u hu
    case c3 => unfold maxLen; omega
    case c4 => omega
    case c5 => simp
    intro v' W3 hown3 hgrow3 _
    have HO3 := Lib.hid hown3
    have HW3 := Lib.hid ((bel_alloc (Below.refl _ w) (.cells #[] 43)).grown hgrow3 (by simp) (fun q hq => by simp [Value.ownBlock] at hq; omega))
    clear hown3 hgrow3
    go_wp2_with fail
    go_ret
    refine ⟨_, rfl, ?_, HW3.out⟩
    simpa using HO3.out
theorem eqS (W : World) (d : Nat) (a b : ByteArray) : (Op.equalIn (d + 1) 9 (.string a) (.string b)).run Try.prog W = .ok (a.toList == b.toList) W := run_equalIn_string W d 9 a b Try.underlying9
def clEq (a b : Cl) : Bool := a.n.toList == b.n.toList && a.b.toList == b.b.toList
theorem eqCl (W : World) (a b : Cl) : (Op.equalIn 10000 43 (.agg #[.string a.n, .string a.b]) (.agg #[.string b.n, .string b.b])).run Try.prog W = .ok (clEq a b) W := by
  have hS : Try.prog.underlying 43 = some (.struct (Try.prog.fieldsOf 43)) := by kernel_rfl
  have hp : Try.prog.stoodInHeld 43 = false := by kernel_rfl
  have hS' : ∀ W (a b : ByteArray), (Op.equalIn 9999 9 (.string a) (.string b)).run Try.prog W = .ok (a.toList == b.toList) W := fun W => eqS W 9998
  unfold clEq
  rw [show (10000 : Nat) = 9999 + 1 from rfl, run_equalIn_agg W _ 43 _ _ hS hp]
  simp only [Program.fieldsOf, Try.underlying43]
  by_cases e1 : a.n.toList = b.n.toList <;> by_cases e4 : a.b.toList = b.b.toList <;> simp [Op.eqFields, go_sem, hS', e1, e4]
theorem clEq_refl (a : Cl) : clEq a a = true := by simp [clEq]
/-- A relation of a loop, kept out of the walk's sight. -/
def Drawn (w W : World) : Prop := ∃ n, W = w.drewN n
set_option maxHeartbeats 1000000 in
theorem likeC_same (l : List Cl) (v u : Value) (w : World) (hv : Row Cl.cs 2 w v l) (hu : Row Cl.cs 2 w u l) (hl : l.length ≤ 1000000) :
    Calls Try.prog 16 #[v, u] w fun e w' => e = .returned (.bool true) ∧ Below w.heap.size w w' := by
  obtain ⟨A, c, rfl, hc, hA⟩ := hv
  obtain ⟨A', c', rfl, hc', hA'⟩ := hu
  have HA := Lib.hid hA
  have HA' := Lib.hid hA'
  clear hA hA'
  obtain ⟨n, hn⟩ : ∃ n, l.length = n := ⟨_, rfl⟩
  rw [hn] at hl hc hc' ⊢
  have Hn := Lib.hid hn
  clear hn
  go_enter Try.func16, Try.ntmps16
  go_wp2_with fail
  go_loopw [13] (fun i wr => ∃ k m : Nat, k ≤ n ∧ i = .int .i64 k ∧ wr = w.drewN m) (fun i _ => n - (intOf i).toNat)
  case atStart => exact ⟨0, 0, Nat.zero_le _, rfl, rfl⟩
  case round =>
    obtain ⟨k, m, hk, rfl, rfl⟩ := hrel
    by_cases hlt : k < n
    · obtain ⟨x, hi⟩ : ∃ x, l[k]? = some x := ⟨_, List.getElem?_eq_getElem (by rw [Hn.out]; exact hlt)⟩
      obtain ⟨b, o, rfl, hb, hX⟩ := HA.out (by rw [Hn.out]; omega)
      obtain ⟨b', o', rfl, hb', hX'⟩ := HA'.out (by rw [Hn.out]; omega)
      have c0 := hX k x 0 _ hi rfl
      have c1 := hX k x 1 _ hi rfl
      have d0 := hX' k x 0 _ hi rfl
      have d1 := hX' k x 1 _ hi rfl
      have hE := fun W => eqCl W x x
      simp only [clEq_refl] at hE
      clear hX hX' hi
      obtain ⟨xn, xb⟩ := x
      simp only [Nat.add_zero] at c0 c1 d0 d1 hE
      go_wp2_with fail
      go_quiet (fail)
      go_wp2_with fail
      go_roundw
      case rel => exact ⟨k + 1, _, by omega, by go_num, rfl⟩
      case measure => simp [intOf]; omega
    · go_wp2_with fail
      go_ret
      exact ⟨rfl, bDrewN (Below.refl _ _)⟩
end Go.Proofs.Ytlboehpgpbchhaa
