/-
  WALKS of layer 3: All of seal and of the reference; Like.
-/
import Derived.Test.YtgpifbdjcoiilaaSealW5
import Derived.Deep.QuietTactic
import Derived.BigQuiet
import Derived.WalkMore
import Derived.Deep.LoopGhost
namespace Go.Proofs.Ytgpifbdjcoiilaa
open Go.RowKit

theorem info_str : (Try.prog.info? 9).map (fun i => (i.zero, i.size, i.bytes)) = some (some (.string ⟨#[]⟩), 1, 16) := by kernel_rfl

/-- What All reads from a place on (with fuel): the bodies, where that ends, and why. -/
def allF (s : ByteArray) : Nat → Nat → List ByteArray × Nat × Int
  | 0, p => ([], p, 0)
  | f + 1, p =>
    if p = s.size then ([], p, 0)
    else match sgR s p with
      | (x, m, e) => if e ≠ 0 then ([], p, e) else (x :: (allF s f m.toNat).1, (allF s f m.toNat).2)
def allR (s : ByteArray) : List ByteArray × Nat × Int := allF s (s.size + 1) 0

theorem sgR_facts {s : ByteArray} {p m : Int} {x : ByteArray} (h : sgR s p = (x, m, 0)) : ∃ q t : Nat, p = q ∧ m = t ∧ q < t ∧ t ≤ s.size := by
  unfold sgR at h
  by_cases h1 : p < 0 ∨ (s.size : Int) < p
  · rw [if_pos h1] at h; simp at h
  · rw [if_neg h1] at h
    by_cases h2 : p = s.size
    · rw [if_pos h2] at h; simp at h
    · rw [if_neg h2] at h
      split at h
      · simp at h
      · obtain ⟨⟨n, fr, er⟩, hg⟩ : ∃ r, getR s.data.toList (p + 1) = r := ⟨_, rfl⟩
        rw [hg] at h
        simp only at h
        by_cases h4 : er = 0
        · subst h4
          obtain ⟨q, t, hq, rfl, hqt, hts, hn, hx⟩ := rdAt_once (by decide) hg
          rw [if_neg (by simp)] at h
          split at h
          · simp at h
          · split at h
            · simp at h
            · split at h
              · simp only [Prod.mk.injEq] at h
                obtain ⟨_, rfl, _⟩ := h
                refine ⟨p.toNat, t + n + 4, by omega, by omega, by omega, by omega⟩
              · simp at h
        · rw [if_pos h4] at h
          simp only [Prod.mk.injEq] at h
          exact absurd h.2.2 h4

def strCs (L : List ByteArray) : List Value := L.map Value.string
theorem strCs_len (L : List ByteArray) : (strCs L).length = L.length := by simp [strCs]

/-- What holds at the head of All's loop. -/
def AlRel (s : ByteArray) (B : Nat) (w0 : World) (v i : Value) (wr : World) : Prop :=
  ∃ (p f : Nat) (L : List ByteArray), p ≤ s.size ∧ s.size + 1 ≤ f + p ∧ i = .int .i64 p ∧ wr.ownsRow B 9 1 v L.length (strCs L) ∧ L.length ≤ p ∧
    allR s = (L ++ (allF s f p).1, (allF s f p).2) ∧ Below B w0 wr

/-- What All hands back: a slice of its own that holds the bodies, the place, and why. -/
def AllPost (s : ByteArray) (w : World) (e : Ending) (w' : World) : Prop :=
  ∃ v, e = .returned (.tuple #[v, .int .i64 (allR s).2.1, .int .i64 (allR s).2.2]) ∧ w'.ownsRow w.heap.size 9 1 v (allR s).1.length (strCs (allR s).1) ∧ Below w.heap.size w w'
theorem AllPost.mk {s : ByteArray} {w w' : World} {v : Value} {L : List ByteArray} {p : Nat} {e0 : Int} (h : allR s = (L, p, e0)) (hown : w'.ownsRow w.heap.size 9 1 v L.length (strCs L)) (hb : Below w.heap.size w w') :
    AllPost s w (.returned (.tuple #[v, .int .i64 p, .int .i64 e0])) w' := by
  unfold AllPost; rw [h]; exact ⟨v, rfl, hown, hb⟩
theorem ownsRow_below {a b : World} {B : Nat} {e : TypeId} {size : Nat} {v : Value} {n : Nat} {xs : List Value} (h : a.ownsRow B e size v n xs) (k : Below a.heap.size a b) : b.ownsRow B e size v n xs :=
  h.kept (row := none) ⟨k.os, k.tape, k.output, k.size, fun i hi _ => k.block i hi⟩ (by cases v.ownBlock <;> simp)
set_option maxHeartbeats 1000000 in
set_option maxRecDepth 100000 in
theorem all_any (s : ByteArray) (w : World) (hs : s.size ≤ 1000000) :
    Calls Try.prog 35 #[.string s] w (AllPost s w) := by
  obtain ⟨i0, hi, hz0, hz1, hz2⟩ := info_parts info_str
  go_enter Try.func35, Try.ntmps35
  go_wp2_with fail
  go_step3
  go_wp2_with fail
  go_step3
  go_wp2_with fail
  go_loopw [5, 6, 7] (fun v i y wr => y = .int .i64 0 ∧ AlRel s w.heap.size w v i wr) (fun _ i _ _ => s.size - (intOf i).toNat)
  case atStart => exact ⟨rfl, 0, s.size + 1, [], by omega, by omega, rfl, World.ownsRow_nil _ _ _ _, by simp, rfl, Below.refl _ _⟩
  case round =>
    obtain ⟨rfl, p, f, L, hp, hf, rfl, hown, hLp, hall, hbel⟩ := hrel
    obtain ⟨⟨x, m, e0⟩, hr⟩ : ∃ r, sgR s p = r := ⟨_, rfl⟩
    have Hr := Lib.hid hr
    have Hall := Lib.hid hall
    have Hown := Lib.hid hown
    clear hr hall hown
    obtain ⟨f, rfl⟩ : ∃ g, f = g + 1 := ⟨f - 1, by omega⟩
    by_cases hps : p = s.size
    · have hb : ((p : Int) == (s.size : Int)) = true := beq_iff_eq.2 (by omega)
      have hfin : allR s = (L, p, 0) := by
        rw [Hall.out]; unfold allF; rw [if_pos hps]; simp
      have Hfin := Lib.hid hfin
      clear hfin hps
      go_wp2_with fail
      refine (sget_any s p _ x m e0 (by omega) Hr.out).mono ?_
      rintro e w1 ⟨rfl, hb1⟩
      go_wp2_with fail
      rw [Exit.noGoto_ret]
      go_ret3
      exact AllPost.mk Hfin.out (ownsRow_below Hown.out hb1) (Below.then hbel hb1)
    · have hb : ((p : Int) == (s.size : Int)) = false := beq_eq_false_iff_ne.2 (by omega)
      by_cases he : e0 = 0
      · subst he
        obtain ⟨q, t, hq, rfl, hqt, hts⟩ := sgR_facts Hr.out
        have hq' : q = p := by omega
        have Hq := Lib.hid hq'
        have hpt : p < t := by omega
        clear hq hq' hqt
        have hstep : allR s = (L ++ [x] ++ (allF s f t).1, (allF s f t).2) := by
          rw [Hall.out]; rw [allF, if_neg hps, Hr.out]; simp
        have Hstep := Lib.hid hstep
        clear hstep hps
        go_wp2_with fail
        refine (sget_any s p _ x t 0 (by omega) Hr.out).mono ?_
        rintro e w1 ⟨rfl, hb1⟩
        have hsz1 := hb1.size
        have hsz := hbel.size
        have Hown1 := Lib.hid (ownsRow_below Hown.out hb1)
        go_wp2_with (at_builtin; refine wpList_append_own _ rfl _ _ 40 rfl w.heap.size 9 i0 (.string ⟨#[]⟩) 1 16 Try.underlying40 hi hz0 hz1 hz2 rfl (by decide) _ _ _ rfl (Hown1.out.alloc _) ⟨w1.heap.size, 0, none⟩ 1 1 [.string x] rfl rfl ?c1 ?c2 ?c3 ?c4 ?c5 ?_)
        case c1 =>
          intro j u hj
          match j, hj with
          | 0, hj => simp at hj; subst hj; simp [Addr.add]
        case c2 => intro u hu; simp at hu; subst hu; rfl
        case c3 => unfold maxLen; omega
        case c4 => omega
        case c5 => simp; omega
        intro v' w2 hown' hgrow _
        have Hown' := Lib.hid hown'
        have Hgrow := Lib.hid hgrow
        clear hown' hgrow
        go_wp2_with fail
        go_roundw
        case rel =>
          refine ⟨rfl, t, f, L ++ [x], by omega, by omega, rfl, ?_, by simp; omega, Hstep.out, ?_⟩
          · have := Hown'.out
            simpa [strCs] using this
          · exact (Below.al (Below.then hbel hb1) _).grown Hgrow.out (by have := (Below.al (Below.then hbel hb1) (Obj.cells #[Value.string x] 9)).size; exact this) (fun k hk => (Hown1.out.lt k hk).1)
        case measure => simp [intOf]; omega
      · have hbe : (e0 != 0) = true := by simpa using he
        have hfin : allR s = (L, p, e0) := by
          rw [Hall.out]; rw [allF, if_neg hps, Hr.out]; simp [he]
        have Hfin := Lib.hid hfin
        clear hfin hps he
        go_wp2_with fail
        refine (sget_any s p _ x m e0 (by omega) Hr.out).mono ?_
        rintro e w1 ⟨rfl, hb1⟩
        go_wp2_with fail
        rw [Exit.noGoto_ret]
        go_ret3
        exact AllPost.mk Hfin.out (ownsRow_below Hown.out hb1) (Below.then hbel hb1)

set_option maxHeartbeats 1000000 in
set_option maxRecDepth 100000 in
theorem rall_any (s : ByteArray) (w : World) (hs : s.size ≤ 1000000) :
    Calls Try.prog 41 #[.string s] w (AllPost s w) := by
  obtain ⟨i0, hi, hz0, hz1, hz2⟩ := info_parts info_str
  go_enter Try.func41, Try.ntmps41
  go_wp2_with fail
  go_loopw [5, 6] (fun v i wr => AlRel s w.heap.size w v i wr) (fun _ i _ => s.size - (intOf i).toNat)
  case atStart =>
    exact ⟨0, s.size + 1, [], by omega, by omega, rfl, World.ownsRow_lit (base := w.heap.size) (e := 9) (size := 1) w #[] 0 (Nat.le_refl _) (by decide) rfl, by simp, rfl, (Below.refl _ _).alloc (Nat.le_refl _) _⟩
  case round =>
    obtain ⟨p, f, L, hp, hf, rfl, hown, hLp, hall, hbel⟩ := hrel
    obtain ⟨⟨x, m, e0⟩, hr⟩ : ∃ r, sgR s p = r := ⟨_, rfl⟩
    have Hr := Lib.hid hr
    have Hall := Lib.hid hall
    have Hown := Lib.hid hown
    clear hr hall hown
    obtain ⟨f, rfl⟩ : ∃ g, f = g + 1 := ⟨f - 1, by omega⟩
    by_cases hps : p = s.size
    · have hb : ¬ (p : Int) < (s.size : Int) := by omega
      have hfin : allR s = (L, p, 0) := by
        rw [Hall.out]; unfold allF; rw [if_pos hps]; simp
      have Hfin := Lib.hid hfin
      clear hfin hps
      go_wp2_with fail
      go_ret3
      exact AllPost.mk Hfin.out Hown.out hbel
    · have hb : (p : Int) < (s.size : Int) := by omega
      by_cases he : e0 = 0
      · subst he
        obtain ⟨q, t, hq, rfl, hqt, hts⟩ := sgR_facts Hr.out
        have hq' : q = p := by omega
        have Hq := Lib.hid hq'
        have hpt : p < t := by omega
        clear hq hq' hqt
        have hstep : allR s = (L ++ [x] ++ (allF s f t).1, (allF s f t).2) := by
          rw [Hall.out]; rw [allF, if_neg hps, Hr.out]; simp
        have Hstep := Lib.hid hstep
        clear hstep hps
        go_wp2_with fail
        refine (rsget_any s p _ x t 0 (by omega) Hr.out).mono ?_
        rintro e w1 ⟨rfl, hb1⟩
        have hsz1 := hb1.size
        have hsz := hbel.size
        have Hown1 := Lib.hid (ownsRow_below Hown.out hb1)
        go_wp2_with (at_builtin; refine wpList_append_own _ rfl _ _ 40 rfl w.heap.size 9 i0 (.string ⟨#[]⟩) 1 16 Try.underlying40 hi hz0 hz1 hz2 rfl (by decide) _ _ _ rfl (Hown1.out.alloc _) ⟨w1.heap.size, 0, none⟩ 1 1 [.string x] rfl rfl ?c1 ?c2 ?c3 ?c4 ?c5 ?_)
        case c1 =>
          intro j u hj
          match j, hj with
          | 0, hj => simp at hj; subst hj; simp [Addr.add]
        case c2 => intro u hu; simp at hu; subst hu; rfl
        case c3 => unfold maxLen; omega
        case c4 => omega
        case c5 => simp; omega
        intro v' w2 hown' hgrow _
        have Hown' := Lib.hid hown'
        have Hgrow := Lib.hid hgrow
        clear hown' hgrow
        go_wp2_with fail
        go_roundw
        case rel =>
          refine ⟨t, f, L ++ [x], by omega, by omega, rfl, ?_, by simp; omega, Hstep.out, ?_⟩
          · have := Hown'.out
            simpa [strCs] using this
          · exact (Below.al (Below.then hbel hb1) _).grown Hgrow.out (by have := (Below.al (Below.then hbel hb1) (Obj.cells #[Value.string x] 9)).size; exact this) (fun k hk => (Hown1.out.lt k hk).1)
        case measure => simp [intOf]; omega
      · have hbe : (e0 != 0) = true := by simpa using he
        have hfin : allR s = (L, p, e0) := by
          rw [Hall.out]; rw [allF, if_neg hps, Hr.out]; simp [he]
        have Hfin := Lib.hid hfin
        clear hfin hps he
        go_wp2_with fail
        refine (rsget_any s p _ x m e0 (by omega) Hr.out).mono ?_
        rintro e w1 ⟨rfl, hb1⟩
        go_wp2_with fail
        go_ret3
        exact AllPost.mk Hfin.out (ownsRow_below Hown.out hb1) (Below.then hbel hb1)

/-- A slice of strings that reads as a list. -/
def IsStrs (w : World) (v : Value) (L : List ByteArray) : Prop :=
  (∃ x c, v = .slice x 0 c ∧ L = []) ∨ ∃ b off c, v = .slice (some ⟨b, off, none⟩) L.length c ∧ ∀ i (h : i < L.length), w.cell? ⟨b, off + i, none⟩ = some (.string L[i])
theorem IsStrs.of_own {w : World} {B : Nat} {v : Value} {L : List ByteArray} (h : w.ownsRow B 9 1 v L.length (strCs L)) : IsStrs w v L := by
  rcases h.2 with ⟨rfl, h0⟩ | ⟨g, cap, cur, rfl, _⟩
  · exact Or.inl ⟨_, _, rfl, List.length_eq_zero_iff.1 h0⟩
  · refine Or.inr ⟨g, 0, cap, rfl, fun i hi => ?_⟩
    rw [Nat.zero_add, h.cellAt i (by omega)]
    simp [strCs, hi]

theorem IsStrs.below {w a : World} {v : Value} {L : List ByteArray} (h : IsStrs w v L) (k : Below w.heap.size w a) : IsStrs a v L := by
  rcases h with h | ⟨b, off, c, rfl, hc⟩
  · exact Or.inl h
  · refine Or.inr ⟨b, off, c, rfl, fun i hi => ?_⟩
    rw [k.cell (World.block_lt_of_cell? w _ (hc i hi))]
    exact hc i hi
def LkRel (n : Nat) (w0 : World) (i : Value) (wr : World) : Prop := ∃ (k q : Nat), k ≤ n ∧ i = .int .i64 k ∧ wr = w0.drewN q
set_option maxHeartbeats 1000000 in
set_option maxRecDepth 100000 in
theorem like_same (w : World) (va vb : Value) (L : List ByteArray) (ha : IsStrs w va L) (hb : IsStrs w vb L) (hn : L.length ≤ 9223372036854775807) :
    Calls Try.prog 36 #[va, vb] w fun e w' => e = .returned (.bool true) ∧ Below w.heap.size w w' := by
  by_cases h0 : L = []
  · subst h0
    obtain ⟨aa, ca, rfl⟩ : ∃ a c, va = .slice a 0 c := by
      rcases ha with ⟨x, c, rfl, _⟩ | ⟨b, off, c, rfl, _⟩
      · exact ⟨_, _, rfl⟩
      · exact ⟨_, _, rfl⟩
    obtain ⟨ab, cb, rfl⟩ : ∃ a c, vb = .slice a 0 c := by
      rcases hb with ⟨x, c, rfl, _⟩ | ⟨b, off, c, rfl, _⟩
      · exact ⟨_, _, rfl⟩
      · exact ⟨_, _, rfl⟩
    clear ha hb hn
    go_enter Try.func36, Try.ntmps36
    go_wp2_with fail
    refine wp_loop_rounds 1 ?_
    rw [rounds_succ]
    go_wp2_with fail
    go_ret
    exact ⟨rfl, Below.refl _ _⟩
  · rcases ha with ⟨_, _, _, hc⟩ | ⟨ba, oa, ca, rfl, hca⟩
    · exact absurd hc h0
    · rcases hb with ⟨_, _, _, hc⟩ | ⟨bb, ob, cb, rfl, hcb⟩
      · exact absurd hc h0
      · have Hca := Lib.hid hca
        have Hcb := Lib.hid hcb
        clear hca hcb h0
        obtain ⟨n, hne⟩ : ∃ n, n = L.length := ⟨_, rfl⟩
        rw [← hne] at hn ⊢
        have Hne := Lib.hid hne
        clear hne
        go_enter Try.func36, Try.ntmps36
        go_wp2_with fail
        go_loopw [13] (fun i wr => LkRel n w i wr) (fun i _ => n - (intOf i).toNat)
        case atStart => exact ⟨0, 0, by omega, rfl, rfl⟩
        case round =>
          obtain ⟨k, q, hk, rfl, rfl⟩ := hrel
          by_cases hlt : k < n
          · have hl : k < L.length := by have := Hne.out; omega
            have c1 := Hca.out k hl
            have c2 := Hcb.out k hl
            obtain ⟨x, hx⟩ : ∃ x, L[k] = x := ⟨_, rfl⟩
            rw [hx] at c1 c2
            clear hx
            have hk0 : (0 : Int) ≤ (k : Int) := by omega
            have hk1 : (k : Int) < (n : Int) := by omega
            go_wp2_with fail
            go_quiet (fail)
            go_wp2_with fail
            go_roundw
            case rel => exact ⟨k + 1, _, by omega, by go_num, rfl⟩
            case measure => simp [intOf]; omega
          · go_wp2_with fail
            go_ret
            exact ⟨rfl, Below.drewN' (Below.refl _ _)⟩
end Go.Proofs.Ytgpifbdjcoiilaa
