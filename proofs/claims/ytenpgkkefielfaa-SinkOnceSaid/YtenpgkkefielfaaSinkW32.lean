/-
  Layer 19: how the ghost rows of SinkOnce go on.
-/
import Derived.Test.YtenpgkkefielfaaSinkW31
set_option linter.unusedVariables false
set_option linter.unusedSimpArgs false
namespace Go.Proofs.Ytenpgkkefielfaa
open Go.RowKit

section
variable {W W' : World} {B : Nat} {vo vu vg : Value} {op out : List Res} {gs : List Stg}
theorem Gh.nil (W : World) (B : Nat) : Gh W B (.slice none 0 0) (.slice none 0 0) (.slice none 0 0) [] [] [] :=
  ⟨OwnT.nil _ _ _ _, OwnT.nil _ _ _ _, OwnT.nil _ _ _ _, by simp, .inl rfl⟩
theorem Gh.below (h : Gh W B vo vu vg op out gs) (hb : Below W.heap.size W W') : Gh W' B vo vu vg op out gs := by
  refine ⟨h.o.below hb, h.u.below hb, h.g.below hb, fun x hx => ⟨(h.rows x hx).1.below hb, fun b e => ?_⟩, h.ou⟩
  obtain ⟨⟨h1, h2⟩, h3⟩ := (h.rows x hx).2 b e
  exact ⟨⟨h1, Nat.lt_of_lt_of_le h2 hb.size⟩, h3⟩
/-- A block that came behind the ghost's is written. -/
theorem Gh.setF {W0 : World} (h : Gh W B vo vu vg op out gs) (h0 : Gh W0 B vo vu vg op out gs) {b : Nat} (hb : W0.heap.size ≤ b) (hg : W.grownBy W' (some b)) : Gh W' B vo vu vg op out gs := by
  refine ⟨h.o.kept hg (.inr fun e => ?_), h.u.kept hg (.inr fun e => ?_), h.g.kept hg (.inr fun e => ?_), fun x hx => ⟨(h.rows x hx).1.off (fun e => ?_) hg, fun b' e => ?_⟩, h.ou⟩
  · have := (h0.o.lt _ e).2; omega
  · have := (h0.u.lt _ e).2; omega
  · have := (h0.g.lt _ e).2; omega
  · have := ((h0.rows x hx).2 _ e).1.2; omega
  · obtain ⟨⟨h1, h2⟩, h3⟩ := (h.rows x hx).2 b' e
    exact ⟨⟨h1, Nat.lt_of_lt_of_le h2 hg.size⟩, h3⟩
/-- A block below the ghost's is written. -/
theorem Gh.setL (h : Gh W B vo vu vg op out gs) {b : Nat} (hb : b < B) (hg : W.grownBy W' (some b)) : Gh W' B vo vu vg op out gs := by
  refine ⟨h.o.kept hg (.inr fun e => ?_), h.u.kept hg (.inr fun e => ?_), h.g.kept hg (.inr fun e => ?_), fun x hx => ⟨(h.rows x hx).1.off (fun e => ?_) hg, fun b' e => ?_⟩, h.ou⟩
  · have := (h.o.lt _ e).1; omega
  · have := (h.u.lt _ e).1; omega
  · have := (h.g.lt _ e).1; omega
  · have := ((h.rows x hx).2 _ e).1.1; omega
  · obtain ⟨⟨h1, h2⟩, h3⟩ := (h.rows x hx).2 b' e
    exact ⟨⟨h1, Nat.lt_of_lt_of_le h2 hg.size⟩, h3⟩
theorem tg_tr : 82 ≠ 41 := by decide
theorem Gh.pushO (h : Gh W B vo vu vg op out gs) {vo' : Value} {r : Res} (hs : OwnT W' B 41 5 vo' (op.length + 1) (op.flatMap Res.cs ++ r.cs)) (hg : W.grownBy W' vo.ownBlock) (hm : Moved W vo vo') :
    Gh W' B vo' vu vg (op ++ [r]) out gs := by
  have hog := ownT_ne h.g h.o tg_tr
  refine ⟨by rw [List.flatMap_append, List.length_append]; exact hs, ?_, h.g.kept hg hog, fun x hx => ⟨(h.rows x hx).1.offO (fun b e e2 => ((h.rows x hx).2 b e2).2.1 e) hg, fun b e => ?_⟩, ?_⟩
  · refine h.u.kept hg ?_
    rcases h.ou with e | e
    · rw [e]
      cases hu : vu.ownBlock with
      | none => exact .inl rfl
      | some g => exact .inr (by simp)
    · exact .inr (fun e2 => e e2.symm)
  · obtain ⟨⟨h1, h2⟩, h3, h4, h5⟩ := (h.rows x hx).2 b e
    refine ⟨⟨h1, Nat.lt_of_lt_of_le h2 hg.size⟩, ?_, h4, h5⟩
    rcases hm with e2 | e2
    · rw [e2]; exact h3
    · intro e3
      have := e2 b e3
      omega
  · rcases hm with e2 | e2
    · rw [e2]; exact h.ou
    · cases ho : vo'.ownBlock with
      | none => exact .inl rfl
      | some g =>
        right
        intro e3
        have h1 := e2 g ho
        have h2 := (h.u.lt g e3.symm).2
        omega
theorem Gh.pushG (h : Gh W B vo vu vg op out gs) {vg' : Value} {n : Int} (hs : OwnT W' B 82 2 vg' (gs.length + 1) (gs.flatMap Stg.cs ++ [.int .i64 n, vo])) (hg : W.grownBy W' vg.ownBlock) (hm : Moved W vg vg') :
    Gh W' B (.slice none 0 0) vu vg' [] out (gs ++ [⟨n, vo, op⟩]) := by
  have hog := ownT_ne h.o h.g (Ne.symm tg_tr)
  have hug := ownT_ne h.u h.g (Ne.symm tg_tr)
  have hgu := ownT_ne h.g h.u tg_tr
  have hgo := ownT_ne h.g h.o tg_tr
  have ho2 : OwnT W' B 41 5 vo op.length (op.flatMap Res.cs) := h.o.kept hg hog
  refine ⟨OwnT.nil _ _ _ _, h.u.kept hg hug, by rw [List.flatMap_append, List.length_append]; exact hs, fun x hx => ?_, .inl rfl⟩
  have hfresh : ∀ b, b < W.heap.size → vg.ownBlock ≠ some b → vg'.ownBlock ≠ some b := by
    intro b hb hne
    rcases hm with e2 | e2
    · rw [e2]; exact hne
    · intro e3
      have := e2 b e3
      omega
  rcases List.mem_append.1 hx with hx | hx
  · refine ⟨(h.rows x hx).1.offO (fun b e e2 => ((h.rows x hx).2 b e2).2.2.2 e) hg, fun b e => ?_⟩
    obtain ⟨⟨h1, h2⟩, h3, h4, h5⟩ := (h.rows x hx).2 b e
    exact ⟨⟨h1, Nat.lt_of_lt_of_le h2 hg.size⟩, by simp [Value.ownBlock], h4, hfresh b h2 h5⟩
  · simp at hx
    subst hx
    refine ⟨OwnT.row Res.cs_len ho2 rfl, fun b e => ?_⟩
    have hl := h.o.lt b e
    refine ⟨⟨hl.1, Nat.lt_of_lt_of_le hl.2 hg.size⟩, by simp [Value.ownBlock], ?_, hfresh b hl.2 ?_⟩
    · intro e2
      rcases h.ou with e3 | e3
      · rw [e3] at e; cases e
      · exact e3 (by rw [e2]; exact e)
    · intro e2
      rcases hog with e3 | e3
      · rw [e3] at e; cases e
      · exact e3 (by rw [e2]; exact e)
theorem Gh.pushU (h : Gh W B vo vu vg op out gs) {vu' : Value} {l : List Res} (hs : OwnT W' B 41 5 vu' (out.length + l.length) (out.flatMap Res.cs ++ l.flatMap Res.cs)) (hg : W.grownBy W' vu.ownBlock) (hm : Moved W vu vu') :
    Gh W' B vo vu' vg op (out ++ l) gs := by
  have hog := ownT_ne h.g h.u tg_tr
  refine ⟨?_, by rw [List.flatMap_append, List.length_append]; exact hs, h.g.kept hg hog, fun x hx => ⟨(h.rows x hx).1.offO (fun b e e2 => ((h.rows x hx).2 b e2).2.2.1 e) hg, fun b e => ?_⟩, ?_⟩
  · exact h.o.kept hg h.ou
  · obtain ⟨⟨h1, h2⟩, h3, h4, h5⟩ := (h.rows x hx).2 b e
    refine ⟨⟨h1, Nat.lt_of_lt_of_le h2 hg.size⟩, h3, ?_, h5⟩
    rcases hm with e2 | e2
    · rw [e2]; exact h4
    · intro e3
      have := e2 b e3
      omega
  · rcases hm with e2 | e2
    · rw [e2]; exact h.ou
    · cases ho : vo.ownBlock with
      | none => exact .inl rfl
      | some g =>
        right
        intro e3
        have h1 := e2 g e3.symm
        have h2 := (h.o.lt g ho).2
        omega
theorem Gh.drop {A : Option Addr} {c : Nat} {x : Stg} (h : Gh W B vo vu (.slice A (gs.length + 1) c) op out (x :: gs)) :
    ∃ b o, A = some ⟨b, o, none⟩ ∧ Gh W B vo vu (.slice (if c = 1 then some ⟨b, o, none⟩ else some ⟨b, o + 1 * 2, none⟩) gs.length (c - 1)) op out gs ∧ Moved W (.slice A (gs.length + 1) c) (.slice (if c = 1 then some ⟨b, o, none⟩ else some ⟨b, o + 1 * 2, none⟩) gs.length (c - 1)) := by
  obtain ⟨b, o, rfl, hd⟩ := OwnT.drop (j := 1) (by have := h.g; simpa using this) (by omega) (by omega)
  have hb : (Value.slice (if c = 1 then some ⟨b, o, none⟩ else some ⟨b, o + 1 * 2, none⟩) gs.length (c - 1)).ownBlock = some b := by
    split <;> rfl
  refine ⟨b, o, rfl, ⟨h.o, h.u, ?_, fun y hy => ?_, h.ou⟩, .inl hb⟩
  · have e1 : (x.cs ++ gs.flatMap Stg.cs).drop (1 * 2) = gs.flatMap Stg.cs := by
      rw [show (1 * 2 : Nat) = x.cs.length from rfl, List.drop_left]
    rw [e1] at hd
    simpa using hd
  · obtain ⟨h1, h2⟩ := h.rows y (List.mem_cons_of_mem _ hy)
    refine ⟨h1, fun b' e => ?_⟩
    obtain ⟨h3, h4, h5, h6⟩ := h2 b' e
    exact ⟨h3, h4, h5, by rw [hb]; exact h6⟩
theorem Gh.reset (h : Gh W B vo vu vg op out gs) : Gh W B (.slice none 0 0) vu (.slice none 0 0) [] out [] :=
  ⟨OwnT.nil _ _ _ _, h.u, OwnT.nil _ _ _ _, by simp, .inl rfl⟩
end
end Go.Proofs.Ytenpgkkefielfaa
