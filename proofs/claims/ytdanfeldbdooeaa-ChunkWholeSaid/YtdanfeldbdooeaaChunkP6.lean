/-
  PLAIN: chunks of a split that came in any order, some twice: what is kept, what is missing, and the bytes when all are there.
-/
import Derived.Test.YtdanfeldbdooeaaChunkP4
import Derived.Test.YtdanfeldbdooeaaChunkP5
import Derived.Test.YtdanfeldbdooeaaMapB
set_option linter.unusedVariables false
set_option linter.unusedSimpArgs false
namespace Go.Proofs.Ytdanfeldbdooeaa
open Go.RowKit

theorem srt_of {l : List Ck} (h : l.Pairwise (fun a b => a.no < b.no)) : srtC l := by
  intro a b x y hab ha hb
  obtain ⟨h1, e1⟩ := List.getElem?_eq_some_iff.1 ha
  obtain ⟨h2, e2⟩ := List.getElem?_eq_some_iff.1 hb
  have := (List.pairwise_iff_getElem.1 h) a b h1 h2 hab
  rw [e1, e2] at this
  exact this
theorem cks_of {g o : Int} {l : List Ck} (hs : srtC l) (h : ∀ x ∈ l, mayB x = true ∧ x.g = g ∧ x.of_ = o) : cksB g o l = true := by
  unfold cksB
  rw [List.all_eq_true]
  intro k hk
  rw [List.mem_range] at hk
  have hx : l[k]? = some l[k] := List.getElem?_eq_getElem hk
  obtain ⟨h1, h2, h3⟩ := h _ (List.mem_of_getElem? hx)
  unfold ckAt
  rw [ckAt_get hx, h1, h2, h3]
  by_cases h0 : k = 0
  · simp [h0]
  · have hy : l[k - 1]? = some l[k - 1] := List.getElem?_eq_getElem (by omega)
    rw [ckAt_get hy]
    have := hs (k - 1) k _ _ (by omega) hy hx
    simp [this]
theorem get_mem {l : List Ck} (hs : srtC l) {c : Ck} (h : c ∈ l) : getC l c.no = some c := by
  obtain ⟨i, hi⟩ := List.getElem?_of_mem h
  exact getC_at hs hi
/-- The chunks of a split whose numbers are among ks. -/
def cameI (ks : List Int) (l : List Nat) : List Nat := l.filter (fun i : Nat => decide ((i : Int) ∈ ks))
def cameL (g : Int) (s : ByteArray) (ks : List Int) : List Ck := (cameI ks (List.range (nOf s))).map (ckOf g (nOf s) s)
def cameO (s : ByteArray) (ks : List Int) : Int := if ks = [] then 0 else nOf s
section
variable {g : Int} {s : ByteArray} {ks : List Int}
theorem came_mem {x : Ck} (h : x ∈ cameL g s ks) : ∃ i : Nat, i < nOf s ∧ (i : Int) ∈ ks ∧ x = ckOf g (nOf s) s i := by
  unfold cameL cameI at h
  obtain ⟨i, hi, rfl⟩ := List.mem_map.1 h
  obtain ⟨h1, h2⟩ := List.mem_filter.1 hi
  exact ⟨i, List.mem_range.1 h1, by simpa using h2, rfl⟩
theorem came_in {i : Nat} (hi : i < nOf s) (hk : (i : Int) ∈ ks) : ckOf g (nOf s) s i ∈ cameL g s ks :=
  List.mem_map.2 ⟨i, List.mem_filter.2 ⟨List.mem_range.2 hi, by simpa using hk⟩, rfl⟩
theorem came_srt (g : Int) (s : ByteArray) (ks : List Int) : srtC (cameL g s ks) := by
  apply srt_of
  unfold cameL cameI
  rw [List.pairwise_map]
  refine ((List.pairwise_lt_range (n := nOf s)).filter _).imp ?_
  intro a b h
  show (a : Int) < b
  omega
theorem came_len (g : Int) (s : ByteArray) (ks : List Int) : (cameL g s ks).length ≤ nOf s := by
  unfold cameL cameI
  rw [List.length_map]
  refine Nat.le_trans (List.length_filter_le _ _) ?_
  simp
theorem came_right (h0 : 0 ≤ g) (h1 : g < 32) (hs : s.size ≤ 3000) : rightG g (cameO s ks) (cameL g s ks) = true := by
  have hn : nOf s ≤ 12 := by unfold nOf; omega
  unfold rightG groupB
  rw [cks_of (came_srt g s ks)]
  · have : 0 ≤ cameO s ks ∧ cameO s ks ≤ 512 := by unfold cameO; split <;> omega
    simp [h0, h1, this]
  · intro x hx
    obtain ⟨i, hi, hk, rfl⟩ := came_mem hx
    refine ⟨ck_may h0 h1 (by omega) hi, rfl, ?_⟩
    unfold cameO
    rw [if_neg (by intro e; rw [e] at hk; cases hk)]
    rfl
theorem came_ok (g : Int) (s : ByteArray) (ks : List Int) (hs : s.size ≤ 3000) : ∀ x ∈ cameL g s ks, x.Ok := by
  intro x hx
  obtain ⟨i, hi, hk, rfl⟩ := came_mem hx
  have hn : nOf s ≤ 12 := by unfold nOf; omega
  refine ⟨?_, ?_⟩
  · unfold ckOf; simp; omega
  · unfold ckOf; simp; omega
theorem came_parts (g : Int) (s : ByteArray) (ks : List Int) {k : Nat} (hk : k < nOf s) : ∃ A B : List Nat, (∀ i ∈ A, i < k) ∧ (∀ i ∈ B, k < i) ∧ List.range (nOf s) = A ++ k :: B := by
  refine ⟨(List.range (nOf s)).take k, (List.range (nOf s)).drop (k + 1), ?_, ?_, ?_⟩
  · intro i hi
    obtain ⟨j, hj, e⟩ := List.mem_take_iff_getElem.1 hi
    simp at e hj
    omega
  · intro i hi
    obtain ⟨j, hj, e⟩ := List.mem_drop_iff_getElem.1 hi
    simp at e hj
    omega
  · have h1 : (List.range (nOf s)).drop k = k :: (List.range (nOf s)).drop (k + 1) := by
      rw [List.drop_eq_getElem_cons (by simpa using hk)]
      simp
    rw [← h1, List.take_append_drop]
theorem came_snoc {k : Nat} (hk : k < nOf s) : cameL g s (ks ++ [(k : Int)]) = if (k : Int) ∈ ks then cameL g s ks else putC (cameL g s ks) (ckOf g (nOf s) s k) := by
  by_cases hm : (k : Int) ∈ ks
  · rw [if_pos hm]
    unfold cameL cameI
    congr 1
    refine List.filter_congr ?_
    intro i _
    rw [decide_eq_decide, List.mem_append, List.mem_singleton]
    constructor
    · rintro (h | h)
      · exact h
      · rw [h]; exact hm
    · exact Or.inl
  · rw [if_neg hm]
    obtain ⟨A, B, hA, hB, e⟩ := came_parts g s ks hk
    have fA : cameI (ks ++ [(k : Int)]) A = cameI ks A := by
      unfold cameI
      refine List.filter_congr ?_
      intro i hi
      have := hA i hi
      have h2 : ¬ ((i : Int) = (k : Int)) := by omega
      simp [h2]
    have fB : cameI (ks ++ [(k : Int)]) B = cameI ks B := by
      unfold cameI
      refine List.filter_congr ?_
      intro i hi
      have := hB i hi
      have h2 : ¬ ((i : Int) = (k : Int)) := by omega
      simp [h2]
    have e1 : cameI (ks ++ [(k : Int)]) (List.range (nOf s)) = cameI ks A ++ k :: cameI ks B := by
      rw [e]
      rw [← fA, ← fB]
      unfold cameI
      rw [List.filter_append, List.filter_cons, if_pos (by simp)]
    have e2 : cameI ks (List.range (nOf s)) = cameI ks A ++ cameI ks B := by
      rw [e]
      unfold cameI
      rw [List.filter_append, List.filter_cons, if_neg (by simpa using hm)]
    unfold cameL
    rw [e1, e2, List.map_append, List.map_append, List.map_cons, putC_above, putC_end]
    · simp
    · intro x hx
      obtain ⟨i, hi, rfl⟩ := List.mem_map.1 hx
      have := hA i (List.mem_filter.1 hi).1
      show (i : Int) < k
      omega
    · intro x hx
      obtain ⟨i, hi, rfl⟩ := List.mem_map.1 hx
      have := hB i (List.mem_filter.1 hi).1
      show (k : Int) < i
      omega
theorem came_get_no {k : Nat} (hm : (k : Int) ∉ ks) : getC (cameL g s ks) (k : Int) = none := by
  unfold getC
  rw [List.find?_eq_none]
  intro x hx
  obtain ⟨i, hi, hk, rfl⟩ := came_mem hx
  show ¬ (((i : Int) == (k : Int)) = true)
  intro h
  have : (i : Int) = k := by simpa using h
  exact hm (this ▸ hk)
theorem cameO_snoc (k : Int) : cameO s (ks ++ [k]) = nOf s := by unfold cameO; rw [if_neg (by simp)]
theorem came_take (h0 : 0 ≤ g) (h1 : g < 32) (hs : s.size ≤ 3000) {k : Nat} (hk : k < nOf s) : takeC g (cameO s ks) (cameL g s ks) (ckOf g (nOf s) s k) = ⟨g, cameO s (ks ++ [(k : Int)]), cameL g s (ks ++ [(k : Int)]), 0⟩ := by
  have hr := came_right (ks := ks) h0 h1 hs
  have hmay : mayB (ckOf g (nOf s) s k) = true := ck_may h0 h1 (by omega) hk
  unfold takeC
  rw [if_pos hr, if_pos]
  · rw [came_snoc hk, cameO_snoc]
    by_cases hm : (k : Int) ∈ ks
    · have hg : getC (cameL g s ks) (ckOf g (nOf s) s k).no = some (ckOf g (nOf s) s k) := get_mem (came_srt g s ks) (came_in hk hm)
      rw [hg, if_pos hm]
      simp only
      rw [if_pos (ckEq_refl _)]
      unfold cameO
      rw [if_neg (by intro e; rw [e] at hm; cases hm)]
    · have hg : getC (cameL g s ks) (ckOf g (nOf s) s k).no = none := came_get_no hm
      rw [hg, if_neg hm]
      rfl
  · unfold fitB
    rw [hmay]
    unfold cameO ckOf
    split <;> simp
theorem came_size (hw : ∀ x ∈ ks, (Lit.int .i64 x).wf = true ∧ ∃ i : Nat, i < nOf s ∧ x = i) : ∀ n, sizeK (ks.take n) = (cameL g s (ks.take n)).length := by
  intro n
  induction n with
  | zero =>
    have : cameL g s [] = [] := by unfold cameL cameI; simp
    rw [List.take_zero, this]
    rfl
  | succ n ih =>
    cases hk : ks[n]? with
    | none =>
      have h1 := List.getElem?_eq_none_iff.1 hk
      rw [List.take_of_length_le (by omega)] at ih ⊢
      exact ih
    | some x =>
      obtain ⟨hx, i, hi, rfl⟩ := hw x (List.mem_of_getElem? hk)
      rw [List.take_add_one, hk]
      simp only [Option.toList_some]
      rw [came_snoc hi, sizeK_snoc]
      · by_cases hm : (i : Int) ∈ ks.take n
        · rw [if_pos hm, if_pos hm, ih]
        · rw [if_neg hm, if_neg hm, ih]
          have ha : ∀ l : List Ck, ∀ c : Ck, (∀ x ∈ l, x.no ≠ c.no) → (putC l c).length = l.length + 1 := by
            intro l c hl
            unfold putC
            rw [List.length_append, List.length_cons]
            clear ih
            induction l with
            | nil => rfl
            | cons a l ih =>
              have h1 := ih (fun x hx => hl x (List.mem_cons_of_mem _ hx))
              have h2 := hl a List.mem_cons_self
              rw [List.filter_cons, List.filter_cons]
              by_cases h3 : a.no < c.no
              · rw [if_pos (by simpa using h3), if_neg (by simp; omega)]
                simp only [List.length_cons]
                omega
              · rw [if_neg (by simpa using h3), if_pos (by simp; omega)]
                simp only [List.length_cons]
                omega
          rw [ha]
          intro x hx
          obtain ⟨j, hj, hk2, rfl⟩ := came_mem hx
          show (j : Int) ≠ i
          intro e
          exact hm (e ▸ hk2)
      · intro y hy
        rcases List.mem_append.1 hy with h | h
        · exact (hw y (List.mem_of_mem_take h)).1
        · rw [List.mem_singleton.1 h]; exact hx
theorem came_size' (hw : ∀ x ∈ ks, (Lit.int .i64 x).wf = true ∧ ∃ i : Nat, i < nOf s ∧ x = i) : sizeK ks = (cameL g s ks).length := by
  have := came_size (g := g) hw ks.length
  rwa [List.take_length] at this
theorem cat_split (g : Int) (s : ByteArray) (k : Nat) (hk : k ≤ nOf s) : catK (splitL g s) k = s.extract 0 (256 * k) := by
  induction k with
  | zero =>
    unfold catK
    simp
    apply ByteArray.ext
    simp
  | succ k ih =>
    have hg : (splitL g s)[k]? = some (ckOf g (nOf s) s k) := by
      unfold splitL
      rw [List.getElem?_map, List.getElem?_range (by omega)]
      rfl
    rw [catK_succ hg, ih (by omega)]
    show s.extract 0 (256 * k) ++ s.extract (256 * k) (256 * k + 256) = _
    rw [ByteArray.extract_append_extract]
    congr 1 <;> omega
theorem came_all (h : nOf s ≤ (cameL g s ks).length) : cameL g s ks = splitL g s := by
  unfold cameL splitL
  unfold cameL at h
  rw [List.length_map] at h
  congr 1
  unfold cameI at h ⊢
  refine List.filter_eq_self.2 ?_
  have h1 : ((List.range (nOf s)).filter (fun i : Nat => decide ((i : Int) ∈ ks))).length = (List.range (nOf s)).length := by
    have := List.length_filter_le (fun i : Nat => decide ((i : Int) ∈ ks)) (List.range (nOf s))
    simp at this h ⊢
    omega
  exact List.length_filter_eq_length_iff.1 h1
theorem came_bytes (h0 : 0 ≤ g) (h1 : g < 32) (hs : s.size ≤ 3000) (hk : ks ≠ []) : bytesC g (cameO s ks) (cameL g s ks) = if (cameL g s ks).length = nOf s then ⟨s, 0⟩ else ⟨⟨#[]⟩, 20⟩ := by
  have hr := came_right (ks := ks) h0 h1 hs
  have ho : cameO s ks = nOf s := by unfold cameO; rw [if_neg hk]
  have hn : 1 ≤ nOf s := by unfold nOf; omega
  have hl := came_len g s ks
  unfold bytesC
  rw [if_pos hr, ho]
  by_cases h : (cameL g s ks).length = nOf s
  · rw [if_neg (by omega), if_pos h, came_all (by omega), splitL_len, cat_split g s _ (Nat.le_refl _)]
    congr 1
    apply ByteArray.ext
    have : s.size ≤ 256 * nOf s := by unfold nOf; omega
    simp
    exact Or.inr this
  · rw [if_pos (by omega), if_neg h]
theorem came_miss (h0 : 0 ≤ g) (h1 : g < 32) (hs : s.size ≤ 3000) (hk : ks ≠ []) : (missK (cameL g s ks) (cameO s ks).toNat).length + (cameL g s ks).length = nOf s := by
  have hr := came_right (ks := ks) h0 h1 hs
  have ho : cameO s ks = nOf s := by unfold cameO; rw [if_neg hk]
  have := miss_count hr
  rw [ho] at this ⊢
  simpa using this
end
end Go.Proofs.Ytdanfeldbdooeaa
