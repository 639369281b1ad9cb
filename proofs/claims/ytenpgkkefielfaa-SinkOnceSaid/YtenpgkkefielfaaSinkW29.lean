/-
  Layer 19: where a sink's rows lie; the four calls told with it.
-/
import Derived.Test.YtenpgkkefielfaaSinkW26
import Derived.Test.YtenpgkkefielfaaSinkW11
import Derived.Test.YtenpgkkefielfaaOwnT
set_option linter.unusedVariables false
set_option linter.unusedSimpArgs false
namespace Go.Proofs.Ytenpgkkefielfaa
open Go.RowKit

/-- None of a sink's rows lies in block g. -/
def KOff (g : Nat) (v : Value) (k : Snk) : Prop := (∃ vo vs l vu, v = .agg #[vo, vs, l, vu] ∧ vo.ownBlock ≠ some g ∧ vs.ownBlock ≠ some g ∧ vu.ownBlock ≠ some g) ∧ ∀ x ∈ k.st, x.row.ownBlock ≠ some g
/-- All of a sink's rows lie in blocks below B. -/
def KIn (B : Nat) (v : Value) (k : Snk) : Prop := (∃ vo vs l vu, v = .agg #[vo, vs, l, vu] ∧ (∀ b, vo.ownBlock = some b → b < B) ∧ (∀ b, vs.ownBlock = some b → b < B) ∧ (∀ b, vu.ownBlock = some b → b < B)) ∧ ∀ x ∈ k.st, ∀ b, x.row.ownBlock = some b → b < B
theorem KIn.mono {B B' : Nat} {v : Value} {k : Snk} (h : KIn B v k) (hB : B ≤ B') : KIn B' v k := by
  obtain ⟨⟨vo, vs, l, vu, e, h1, h2, h3⟩, h4⟩ := h
  exact ⟨⟨vo, vs, l, vu, e, fun b hb => Nat.lt_of_lt_of_le (h1 b hb) hB, fun b hb => Nat.lt_of_lt_of_le (h2 b hb) hB, fun b hb => Nat.lt_of_lt_of_le (h3 b hb) hB⟩, fun x hx b hb => Nat.lt_of_lt_of_le (h4 x hx b hb) hB⟩
theorem KIn.off {B g : Nat} {v : Value} {k : Snk} (h : KIn B v k) (hg : B ≤ g) : KOff g v k := by
  obtain ⟨⟨vo, vs, l, vu, e, h1, h2, h3⟩, h4⟩ := h
  exact ⟨⟨vo, vs, l, vu, e, fun e => by have := h1 _ e; omega, fun e => by have := h2 _ e; omega, fun e => by have := h3 _ e; omega⟩, fun x hx e => by have := h4 x hx _ e; omega⟩
theorem src_off {w w' : World} {u v : Value} {g : Nat} (h : SrcV w w' u v) (hu : u.ownBlock ≠ some g) (hg : g < w.heap.size) : v.ownBlock ≠ some g := by
  rcases h with rfl | rfl | ⟨b, c, n, rfl, h1, -⟩
  · exact hu
  · simp [Value.ownBlock]
  · intro e
    simp [Value.ownBlock] at e
    omega
theorem src_in {w w' : World} {u v : Value} (h : SrcV w w' u v) (hu : ∀ b, u.ownBlock = some b → b < w.heap.size) (hs : w.heap.size ≤ w'.heap.size) : ∀ b, v.ownBlock = some b → b < w'.heap.size := by
  intro b hb
  rcases h with rfl | rfl | ⟨g, c, n, rfl, -, h1⟩
  · have := hu b hb; omega
  · simp [Value.ownBlock] at hb
  · simp [Value.ownBlock] at hb
    omega
/-- The stages of an answer: those that were there, or one whose row is the open one. -/
def StFrom (v : Value) (k k' : Snk) : Prop := ∀ x ∈ k'.st, x ∈ k.st ∨ ∃ vs l vu, v = .agg #[x.row, vs, l, vu]
theorem KOff.loc {g : Nat} {w w' : World} {v v' : Value} {k k' : Snk} (h : KOff g v k) (hg : g < w.heap.size) (hl : LocK w w' v v') (hs : StFrom v k k') : KOff g v' k' := by
  obtain ⟨⟨vo, vs, l, vu, e, h1, h2, h3⟩, h4⟩ := h
  obtain ⟨vo2, vs2, l2, vu2, wo, ws, wl, wu, e2, e3, k1, k2, k3⟩ := hl
  rw [e] at e2
  injection e2 with e2
  injection e2 with e2
  simp at e2
  obtain ⟨rfl, rfl, rfl, rfl⟩ := e2
  refine ⟨⟨wo, ws, wl, wu, e3, src_off k1 h1 hg, src_off k2 h2 hg, src_off k3 h3 hg⟩, fun x hx => ?_⟩
  rcases hs x hx with hx | ⟨a, b, c, hv⟩
  · exact h4 x hx
  · rw [e] at hv
    injection hv with hv
    injection hv with hv
    simp at hv
    rw [← hv.1]
    exact h1
theorem KIn.loc {w w' : World} {v v' : Value} {k k' : Snk} (h : KIn w.heap.size v k) (hw : w.heap.size ≤ w'.heap.size) (hl : LocK w w' v v') (hs : StFrom v k k') : KIn w'.heap.size v' k' := by
  obtain ⟨⟨vo, vs, l, vu, e, h1, h2, h3⟩, h4⟩ := h
  obtain ⟨vo2, vs2, l2, vu2, wo, ws, wl, wu, e2, e3, k1, k2, k3⟩ := hl
  rw [e] at e2
  injection e2 with e2
  injection e2 with e2
  simp at e2
  obtain ⟨rfl, rfl, rfl, rfl⟩ := e2
  refine ⟨⟨wo, ws, wl, wu, e3, src_in k1 h1 hw, src_in k2 h2 hw, src_in k3 h3 hw⟩, fun x hx b hb => ?_⟩
  rcases hs x hx with hx | ⟨a, b', c, hv⟩
  · have := h4 x hx b hb; omega
  · rw [e] at hv
    injection hv with hv
    injection hv with hv
    simp at hv
    rw [← hv.1] at hb
    have := h1 b hb; omega
/-- A row stays when a block in which it does not lie is written. -/
theorem Row.off {α : Type} {enc : α → List Value} {kk : Nat} {W W' : World} {v : Value} {l : List α} (h : Row enc kk W v l) {g : Nat} (hv : v.ownBlock ≠ some g) (hb : W.grownBy W' (some g)) : Row enc kk W' v l := by
  obtain ⟨A, c, e, hc, h⟩ := h
  refine ⟨A, c, e, hc, fun hl => ?_⟩
  obtain ⟨b, o, ha, hb', hx⟩ := h hl
  have hne : b ≠ g := by
    intro e2
    subst e2
    rw [e, ha] at hv
    exact hv rfl
  refine ⟨b, o, ha, Nat.lt_of_lt_of_le hb' hb.size, fun i x j u' h1 h2 => ?_⟩
  have h3 := hx i x j u' h1 h2
  rw [← h3]
  unfold World.cell?
  rw [hb.block b hb' (fun e => hne (by injection e))]
theorem RowR.off {W W' : World} {v : Value} {l : List Res} (h : RowR W v l) {g : Nat} (hv : v.ownBlock ≠ some g) (hb : W.grownBy W' (some g)) : RowR W' v l := ⟨h.1.off hv hb, h.2⟩
theorem KAt.off {W W' : World} {v : Value} {k : Snk} (h : KAt W v k) {g : Nat} (ho : KOff g v k) (hb : W.grownBy W' (some g)) : KAt W' v k := by
  obtain ⟨vo, vs, vu, e, h1, ⟨h2, h3, h4⟩, h5, h6⟩ := h
  obtain ⟨⟨vo2, vs2, l2, vu2, e2, k1, k2, k3⟩, k4⟩ := ho
  rw [e] at e2
  injection e2 with e2
  injection e2 with e2
  simp at e2
  obtain ⟨rfl, rfl, -, rfl⟩ := e2
  exact ⟨vo, vs, vu, e, h1.off k1 hb, ⟨h2.off k2 hb, fun x hx => ⟨(h3 x hx).1, (h3 x hx).2.off (k4 x hx) hb⟩, h4⟩, h5, h6.off k3 hb⟩
theorem loc_refl {W : World} {v : Value} {k : Snk} (h : KAt W v k) (w w' : World) : LocK w w' v v := by
  obtain ⟨vo, vs, vu, e, -⟩ := h
  exact ⟨vo, vs, _, vu, vo, vs, _, vu, e, e, .inl rfl, .inl rfl, .inl rfl⟩
/-- A call on a sink answers a sink and an error; where its rows lie. -/
def LocTo (E : Int) (K : Snk) (v : Value) (k : Snk) (w : World) (e : Ending) (w' : World) : Prop :=
  (∃ v', e = .returned (.tuple #[v', .int .i64 E]) ∧ KAt w' v' K ∧ (E = 0 → LocK w w' v v' ∧ StFrom v k K)) ∧ Below w.heap.size w w'
theorem sadd_loc (k : Snk) (r : Res) (hwf : r.Wf) (v : Value) (w : World) (hv : KAt w v k) : Calls Try.prog 30 #[v, r.val] w (LocTo (addE k r) (addK k r) v k w) := by
  by_cases h0 : addE k r = 0
  · have hE := h0
    unfold addE Snk.right at h0
    split at h0
    · rename_i hr
      rw [Bool.and_eq_true] at hr
      split at h0
      · cases h0
      · rename_i hc
        refine (sadd_yes _ _ _ _ r v w hv hr.1 hr.2 hwf (by omega)).mono ?_
        rintro e w' ⟨v', rfl, h, hb, hl⟩
        unfold LocTo addK
        rw [hE, if_pos rfl]
        exact ⟨⟨_, rfl, h, fun _ => ⟨hl, fun x hx => .inl hx⟩⟩, hb⟩
    · cases h0
  · refine (sadd_all k r hwf v w hv).mono ?_
    rintro e w' ⟨⟨v', rfl, h⟩, hb⟩
    exact ⟨⟨_, rfl, h, fun e => absurd e h0⟩, hb⟩
theorem sstg_loc (k : Snk) (n : Int) (hn : wfL n) (v : Value) (w : World) (hv : KAt w v k) : Calls Try.prog 32 #[v, .int .i64 n] w fun e w' => ∃ vo, LocTo (stgE k n) (stgK k n vo) v k w e w' := by
  by_cases h0 : stgE k n = 0
  · have hE := h0
    unfold stgE Snk.right at h0
    split at h0
    · rename_i hr
      rw [Bool.and_eq_true, decide_eq_true_eq] at hr
      split at h0
      · cases h0
      · rename_i h3
        split at h0
        · cases h0
        · rename_i h4
          refine (sstage_yes _ _ _ _ n hn v w hv (lastN k) rfl hr.1 hr.2 (by omega) (by omega)).mono ?_
          rintro e w' ⟨⟨v', vo, rfl, h, hl, hvo⟩, hb⟩
          refine ⟨vo, ?_⟩
          unfold LocTo stgK
          rw [hE, if_pos rfl]
          refine ⟨⟨_, rfl, h, fun _ => ⟨hl, fun x hx => ?_⟩⟩, hb⟩
          rcases List.mem_append.1 hx with hx | hx
          · exact .inl hx
          · simp at hx; subst hx; exact .inr hvo
    · cases h0
  · refine (sstg_all k n hn v w hv).mono ?_
    rintro e w' ⟨⟨v', vo, rfl, h⟩, hb⟩
    exact ⟨vo, ⟨_, rfl, h, fun e => absurd e h0⟩, hb⟩
theorem scom_loc (k : Snk) (n : Int) (hn : wfL n) (v : Value) (w : World) (hv : KAt w v k) : Calls Try.prog 38 #[v, .int .i64 n] w (LocTo (comE k n) (comK k n) v k w) := by
  by_cases h0 : comE k n = 0
  · obtain ⟨hr, h2⟩ := comE_zero h0
    by_cases hl : n ≤ k.last
    · refine (scommit_same _ _ _ _ n hn v w hv hr hl).mono ?_
      rintro e w' ⟨⟨v', rfl, h, rfl⟩, hb⟩
      unfold LocTo comK
      rw [h0, if_pos hr, if_pos hl]
      exact ⟨⟨_, rfl, h, fun _ => ⟨loc_refl hv w w', fun x hx => .inl hx⟩⟩, hb⟩
    · have ha : k.has n = true := h2.resolve_left hl
      refine (scommit_yes _ _ _ _ n hn v w hv hr (by omega) ha).mono ?_
      rintro e w' ⟨⟨v', rfl, h, hloc⟩, hb⟩
      rw [(com_split hr ha).1, (com_split hr ha).2] at h
      unfold LocTo comK
      rw [h0, if_pos hr, if_neg hl, if_pos ha]
      refine ⟨⟨_, rfl, h, fun _ => ⟨hloc, fun x hx => .inl ?_⟩⟩, hb⟩
      exact (List.mem_filter.1 (by unfold keepSt at hx; exact hx)).1
  · refine (scom_all k n hn v w hv).mono ?_
    rintro e w' ⟨⟨v', rfl, h⟩, hb⟩
    exact ⟨⟨_, rfl, h, fun e => absurd e h0⟩, hb⟩
theorem sabo_loc (k : Snk) (v : Value) (w : World) (hv : KAt w v k) : Calls Try.prog 39 #[v] w (LocTo (aboE k) (aboK k) v k w) := by
  by_cases h0 : aboE k = 0
  · have hr : k.right = true := by
      unfold aboE at h0
      split at h0
      · assumption
      · cases h0
    refine (sabort_yes _ _ _ _ v w hv hr).mono ?_
    rintro e w' ⟨v', rfl, h, hb, hl⟩
    unfold LocTo aboK
    rw [h0, if_pos hr]
    exact ⟨⟨_, rfl, h, fun _ => ⟨hl, fun x hx => by simp at hx⟩⟩, hb⟩
  · refine (sabo_all k v w hv).mono ?_
    rintro e w' ⟨⟨v', rfl, h⟩, hb⟩
    exact ⟨⟨_, rfl, h, fun e => absurd e h0⟩, hb⟩
end Go.Proofs.Ytenpgkkefielfaa
