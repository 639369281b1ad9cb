/-
  WALKS of the laws of layer 3: SealBack.
-/
import Derived.Test.YtgpifbdjcoiilaaSealL3
namespace Go.Proofs.Ytgpifbdjcoiilaa
open Go.RowKit

/-- A slice of strings that came in. -/
def ArgStrs (w : World) (v : Value) (L : List ByteArray) : Prop :=
  ∃ x c, v = .slice x L.length c ∧ ∀ i (h : i < L.length), ∃ b off, x = some ⟨b, off, none⟩ ∧ w.cell? ⟨b, off + i, none⟩ = some (.string L[i])

def BkRel (L : List ByteArray) (w0 : World) (r v i : Value) (wr : World) : Prop :=
  ∃ k : Nat, k ≤ L.length ∧ k ≤ 12 ∧ i = .int .i64 k ∧ r = .string (rowB ((L.take k).map (shortS 1000))) ∧ wr.ownsRow w0.heap.size 9 1 v k (strCs ((L.take k).map (shortS 1000))) ∧ Below w0.heap.size w0 wr

theorem rowL_bound (L : List ByteArray) (h : ∀ b ∈ L, b.size ≤ 1000) : (rowL L).length ≤ 1015 * L.length := by
  induction L with
  | nil => simp [rowL]
  | cons b t ih =>
    have h1 := frm_size b
    have h2 := h b (by simp)
    have h3 := cnt_le (n := b.size) (by omega)
    have h4 := ih (fun x hx => h x (by simp [hx]))
    rw [dig_length] at h1
    simp only [rowL, List.length_append, len_data, List.length_cons]
    omega

set_option maxHeartbeats 2000000 in
set_option maxRecDepth 100000 in
theorem sback_walk (w : World) (va : Value) (L : List ByteArray) (hv : ArgStrs w va L) (hm : ∀ b ∈ L, b.size ≤ 9223372036854775807) (hnL : L.length ≤ 9223372036854775807) :
    Calls Try.prog 9 #[va] w fun e w' => e = .returned (.bool true) ∧ Below w.heap.size w w' := by
  obtain ⟨i0, hi, hz0, hz1, hz2⟩ := info_parts info_str
  obtain ⟨xa, ca, rfl, hcs⟩ := hv
  have Hcs := Lib.hid hcs
  have Hm := Lib.hid hm
  clear hcs hm
  have h0 : ((crc (ByteArray.mk #[]).data.toList : Int) != 0) = true := by decide
  obtain ⟨n, hne⟩ : ∃ n, n = L.length := ⟨_, rfl⟩
  have hn : n ≤ 9223372036854775807 := by rw [hne]; exact hnL
  rw [← hne]
  have Hne := Lib.hid hne
  clear hne
  go_enter Try.func9, Try.ntmps9
  go_wp2_with fail
  go_loopw [3, 4, 14] (fun r v i wr => BkRel L w r v i wr) (fun _ _ i _ => n - (intOf i).toNat)
  case atStart => exact ⟨0, by omega, by omega, rfl, rfl, World.ownsRow_nil _ _ _ _, Below.refl _ _⟩
  case round =>
    obtain ⟨k, hk, hk12, rfl, rfl, hown, hbel⟩ := hrel
    have hkn : k ≤ n := by have := Hne.out; omega
    have Hown := Lib.hid hown
    clear hown
    by_cases hlt : k < n ∧ k < 12
    · obtain ⟨hlt, hlt12⟩ := hlt
      have hl : k < L.length := by have := Hne.out; omega
      obtain ⟨b, off, rfl, hcell⟩ := Hcs.out k hl
      have hcell := (hbel.cell (World.block_lt_of_cell? w _ hcell)).trans hcell
      have hxs := Hm.out L[k] (List.getElem_mem hl)
      have hts : (L.take (k + 1)).map (shortS 1000) = (L.take k).map (shortS 1000) ++ [shortS 1000 L[k]] := by rw [List.take_succ_eq_append_getElem hl, List.map_append]; rfl
      have hbd := rowL_bound ((L.take (k + 1)).map (shortS 1000)) (fun b hb => by
        obtain ⟨y, _, rfl⟩ := List.mem_map.1 hb
        exact shortS_size 1000 y)
      rw [List.length_map, List.length_take] at hbd
      have hss := shortS_size 1000 L[k]
      obtain ⟨x, hx⟩ : ∃ x, L[k] = x := ⟨_, rfl⟩
      rw [hx] at hcell hxs hts hss
      obtain ⟨y, hy⟩ : ∃ y, shortS 1000 x = y := ⟨_, rfl⟩
      rw [hy] at hts hss
      obtain ⟨R, hRe⟩ : ∃ R, rowB ((L.take k).map (shortS 1000)) = R := ⟨_, rfl⟩
      have hR2 : R ++ frm y = rowB ((L.take (k + 1)).map (shortS 1000)) := by rw [← hRe, rowB_snoc, hts]
      have hsum : R.size + (frm y).size ≤ 9223372036854775807 := by
        have : (R ++ frm y).size ≤ 13000 := by rw [hR2, rowB_size]; omega
        rw [ByteArray.size_append] at this; omega
      have hadd := fun W => run_string_add_sum (P := Try.prog) W R (frm y) hsum
      have hf6 : 6 ≤ (frm y).size := by rw [frm_size, dig_length]; omega
      rw [hRe]
      have HR2 := Lib.hid hR2
      have Hts := Lib.hid hts
      clear hRe hR2 hts hsum hbd hx
      by_cases hc : 1000 < x.size
      · have hye : x.extract 0 1000 = y := by rw [← hy]; unfold shortS; rw [if_pos hc]
        clear hy
        go_wp2_with fail
        refine (sput_yes y _ (by omega)).mono ?_
        rintro e w2 ⟨rfl, hb2⟩
        have hsz2 := hb2.size
        have hsz := hbel.size
        have Hown1 := Lib.hid (ownsRow_below Hown.out hb2)
        go_wp2_with (at_builtin; refine wpList_append_own _ rfl _ _ 40 rfl w.heap.size 9 i0 (.string ⟨#[]⟩) 1 16 Try.underlying40 hi hz0 hz1 hz2 rfl (by decide) _ _ _ rfl (Hown1.out.alloc _) ⟨w2.heap.size, 0, none⟩ 1 1 [.string y] rfl rfl ?c1a ?c2a ?c3a ?c4a ?c5a ?_)
        case c1a =>
          intro j u hj
          match j, hj with
          | 0, hj => simp at hj; subst hj; simp [Addr.add]
        case c2a => intro u hu; simp at hu; subst hu; rfl
        case c3a => unfold maxLen; omega
        case c4a => omega
        case c5a => simp; omega
        intro v' w3 hown' hgrow _
        have Hown' := Lib.hid hown'
        have Hgrow := Lib.hid hgrow
        clear hown' hgrow
        go_wp2_with fail
        go_roundw
        case rel =>
          refine ⟨k + 1, by omega, by omega, by go_num, by rw [HR2.out], ?_, ?_⟩
          · have := Hown'.out
            rw [Hts.out]
            simpa [strCs] using this
          · exact (Below.al (Below.then hbel hb2) _).grown Hgrow.out (by have := (Below.al (Below.then hbel hb2) (Obj.cells #[Value.string y] 9)).size; exact this) (fun k hk => (Hown1.out.lt k hk).1)
        case measure => simp [intOf]; omega
      · have hye : x = y := by rw [← hy]; unfold shortS; rw [if_neg hc]
        subst hye
        clear hy
        go_wp2_with fail
        refine (sput_yes x _ (by omega)).mono ?_
        rintro e w2 ⟨rfl, hb2⟩
        have hsz2 := hb2.size
        have hsz := hbel.size
        have Hown1 := Lib.hid (ownsRow_below Hown.out hb2)
        go_wp2_with (at_builtin; refine wpList_append_own _ rfl _ _ 40 rfl w.heap.size 9 i0 (.string ⟨#[]⟩) 1 16 Try.underlying40 hi hz0 hz1 hz2 rfl (by decide) _ _ _ rfl (Hown1.out.alloc _) ⟨w2.heap.size, 0, none⟩ 1 1 [.string x] rfl rfl ?c1b ?c2b ?c3b ?c4b ?c5b ?_)
        case c1b =>
          intro j u hj
          match j, hj with
          | 0, hj => simp at hj; subst hj; simp [Addr.add]
        case c2b => intro u hu; simp at hu; subst hu; rfl
        case c3b => unfold maxLen; omega
        case c4b => omega
        case c5b => simp; omega
        intro v' w3 hown' hgrow _
        have Hown' := Lib.hid hown'
        have Hgrow := Lib.hid hgrow
        clear hown' hgrow
        go_wp2_with fail
        go_roundw
        case rel =>
          refine ⟨k + 1, by omega, by omega, by go_num, by rw [HR2.out], ?_, ?_⟩
          · have := Hown'.out
            rw [Hts.out]
            simpa [strCs] using this
          · exact (Below.al (Below.then hbel hb2) _).grown Hgrow.out (by have := (Below.al (Below.then hbel hb2) (Obj.cells #[Value.string x] 9)).size; exact this) (fun k hk => (Hown1.out.lt k hk).1)
        case measure => simp [intOf]; omega
    · obtain ⟨M, hMe⟩ : ∃ M, (L.take k).map (shortS 1000) = M := ⟨_, rfl⟩
      have hMb : ∀ b ∈ M, b.size ≤ 1000 := fun b hb => by
        rw [← hMe] at hb
        obtain ⟨y, _, rfl⟩ := List.mem_map.1 hb
        exact shortS_size 1000 y
      have hMk : M.length = k := by rw [← hMe, List.length_map, List.length_take]; omega
      have hbd := rowL_bound M hMb
      have hall : allR (rowB M) = (M, (rowB M).size, 0) := allR_back (by simp [rowB]) (fun b hb => Nat.le_trans (hMb b hb) (by decide))
      have hrs : (rowB M).size ≤ 13000 := by rw [rowB_size]; omega
      have HownM := Hown.out
      rw [hMe] at HownM ⊢
      rw [← hMk] at HownM
      obtain ⟨T, hT⟩ : ∃ T, rowB M = T := ⟨_, rfl⟩
      rw [hT] at hall hrs ⊢
      have Hall := Lib.hid hall
      have HownM' := Lib.hid HownM
      have HMk := Lib.hid hMk
      clear HownM hall hMe hMb hbd hT hMk
      by_cases hkn' : k < n
      · have hk12' : ¬ k < 12 := by omega
        have hl : k < L.length := by have := Hne.out; omega
        obtain ⟨b, off, rfl, hcell⟩ := Hcs.out k hl
        have hcell := (hbel.cell (World.block_lt_of_cell? w _ hcell)).trans hcell
        go_wp2_with fail
        refine (all_any T _ (by omega)).mono ?_
        rintro e w2 hpost
        unfold AllPost at hpost
        rw [Hall.out] at hpost
        obtain ⟨vb, rfl, hown2, hb2⟩ := hpost
        have Hown2 := Lib.hid hown2
        clear hown2
        go_wp2_with fail
        refine (like_same _ _ _ M (IsStrs.of_own Hown2.out) ((IsStrs.of_own HownM'.out).below hb2) (by have := HMk.out; omega)).mono ?_
        rintro e w3 ⟨rfl, hb3⟩
        go_wp2_with fail
        refine (sum_any ⟨#[]⟩ _ (by decide)).mono ?_
        rintro e w0 ⟨rfl, rfl⟩
        go_wp2_with fail
        go_ret
        exact ⟨rfl, Below.then (Below.then hbel hb2) hb3⟩
      · go_wp2_with fail
        refine (all_any T _ (by omega)).mono ?_
        rintro e w2 hpost
        unfold AllPost at hpost
        rw [Hall.out] at hpost
        obtain ⟨vb, rfl, hown2, hb2⟩ := hpost
        have Hown2 := Lib.hid hown2
        clear hown2
        go_wp2_with fail
        refine (like_same _ _ _ M (IsStrs.of_own Hown2.out) ((IsStrs.of_own HownM'.out).below hb2) (by have := HMk.out; omega)).mono ?_
        rintro e w3 ⟨rfl, hb3⟩
        go_wp2_with fail
        refine (sum_any ⟨#[]⟩ _ (by decide)).mono ?_
        rintro e w0 ⟨rfl, rfl⟩
        go_wp2_with fail
        go_ret
        exact ⟨rfl, Below.then (Below.then hbel hb2) hb3⟩
end Go.Proofs.Ytgpifbdjcoiilaa
