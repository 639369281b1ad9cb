/-
  WALKS of layer 10: the reference's Hold.
-/
import Derived.Test.YtdanfeldbdooeaaMarkW17
import Derived.Deep.DeepCutAuto
set_option linter.unusedVariables false
set_option linter.unusedSimpArgs false
namespace Go.Proofs.Ytdanfeldbdooeaa
open Go.RowKit

/-- The reference's Hold: a hold is put ahead of the first of a greater number. -/
def insH (h : Hld) (st : List Hld × Bool) (x : Hld) : List Hld × Bool := if st.2 = false ∧ h.no < x.no then (st.1 ++ [h] ++ [x], true) else (st.1 ++ [x], st.2)
def insF (h : Hld) (l : List Hld) : List Hld × Bool := l.foldl (insH h) ([], false)
theorem insF_snoc (h : Hld) (l : List Hld) (x : Hld) : insF h (l ++ [x]) = insH h (insF h l) x := by unfold insF; rw [List.foldl_append]; rfl
theorem insF_len (h : Hld) (l : List Hld) : (insF h l).1.length ≤ l.length + 1 := by
  have : ∀ (l : List Hld) (st : List Hld × Bool), (l.foldl (insH h) st).1.length ≤ st.1.length + l.length + (if st.2 then 0 else 1) := by
    intro l
    induction l with
    | nil => intro st; simp
    | cons x l ih =>
      intro st
      rw [List.foldl_cons]
      have h1 := ih (insH h st x)
      unfold insH at h1 ⊢
      obtain ⟨s, b⟩ := st
      cases b with
      | true => simp at h1 ⊢; omega
      | false =>
        by_cases hx : h.no < x.no
        · simp [hx] at h1 ⊢; omega
        · simp [hx] at h1 ⊢; omega
  have := this l ([], false)
  unfold insF
  simp at this
  omega
theorem ins_low (h : Hld) : ∀ (l s : List Hld), (∀ x ∈ l, x.no < h.no) → l.foldl (insH h) (s, false) = (s ++ l, false)
  | [], s, _ => by simp
  | x :: l, s, hl => by
    rw [List.foldl_cons]
    have hx := hl x (List.mem_cons_self ..)
    have e : insH h (s, false) x = (s ++ [x], false) := by unfold insH; rw [if_neg (by simp; omega)]
    rw [e, ins_low h l _ (fun y hy => hl y (List.mem_cons_of_mem _ hy))]
    simp
theorem ins_tt (h : Hld) : ∀ (l s : List Hld), l.foldl (insH h) (s, true) = (s ++ l, true)
  | [], s => by simp
  | x :: l, s => by
    rw [List.foldl_cons]
    have e : insH h (s, true) x = (s ++ [x], true) := by unfold insH; rw [if_neg (by simp)]
    rw [e, ins_tt h l]
    simp
theorem srt_tail {x : Hld} {l : List Hld} (h : srtH (x :: l)) : srtH l ∧ ∀ y ∈ l, x.no < y.no := by
  refine ⟨fun a b y z hab hy hz => h (a + 1) (b + 1) y z (by omega) (by simpa using hy) (by simpa using hz), fun y hy => ?_⟩
  obtain ⟨a, ha⟩ := List.mem_iff_getElem?.1 hy
  exact h 0 (a + 1) x y (by omega) rfl (by simpa using ha)
theorem rem_split (no : Int) : ∀ {l : List Hld}, srtH l → remH l no = l.filter (fun x => decide (x.no < no)) ++ l.filter (fun x => decide (no < x.no))
  | [], _ => rfl
  | x :: l, hs => by
    obtain ⟨h1, h2⟩ := srt_tail hs
    have ih := rem_split no h1
    unfold remH at ih ⊢
    rcases Int.lt_trichotomy x.no no with h | h | h
    · rw [List.filter_cons, if_pos (by simp; omega), List.filter_cons, if_pos (by simpa using h), List.filter_cons, if_neg (by simp; omega), ih]
      rfl
    · rw [List.filter_cons, if_neg (by simp; omega), List.filter_cons, if_neg (by simp; omega), List.filter_cons, if_neg (by simp; omega), ih]
    · have hl : ∀ y ∈ l, no < y.no := fun y hy => by have := h2 y hy; omega
      have e1 : l.filter (fun x => decide (x.no < no)) = [] := filter_none _ (fun y hy => by have := hl y hy; simp; omega)
      have e2 : l.filter (fun x => decide (x.no ≠ no)) = l := filter_all _ (fun y hy => by have := hl y hy; simp; omega)
      have e3 : l.filter (fun x => decide (no < x.no)) = l := filter_all _ (fun y hy => by simpa using hl y hy)
      rw [List.filter_cons, if_pos (by simp; omega), List.filter_cons, if_neg (by simp; omega), List.filter_cons, if_pos (by simpa using h), e1, e2, e3, List.nil_append]
/-- What the reference's loop leaves. -/
theorem ins_put {l : List Hld} (hs : srtH l) (no t : Int) : ((insF ⟨no, clampT t⟩ (remH l no)).2 = true ∧ (insF ⟨no, clampT t⟩ (remH l no)).1 = putH l no t) ∨ ((insF ⟨no, clampT t⟩ (remH l no)).2 = false ∧ (insF ⟨no, clampT t⟩ (remH l no)).1 ++ [⟨no, clampT t⟩] = putH l no t) := by
  rw [rem_split no hs]
  unfold insF putH
  rw [List.foldl_append, ins_low _ _ _ (fun x hx => by have := (List.mem_filter.1 hx).2; simpa using this), List.nil_append]
  cases hB : l.filter (fun x => decide (no < x.no)) with
  | nil => right; simp
  | cons x B =>
    left
    have hx : no < x.no := by have := (List.mem_filter.1 (show x ∈ l.filter (fun x => decide (no < x.no)) by rw [hB]; exact List.mem_cons_self ..)).2; simpa using this
    rw [List.foldl_cons]
    have e : insH ⟨no, clampT t⟩ (l.filter (fun x => decide (x.no < no)), false) x = (l.filter (fun x => decide (x.no < no)) ++ [⟨no, clampT t⟩] ++ [x], true) := by unfold insH; rw [if_pos ⟨rfl, hx⟩]
    rw [e, ins_tt]
    simp
structure HiAt (w2 W : World) (v1 : Value) (o hn ha : Int) (u2 : Value) (l : List Hld) : Prop where
  ob : W.heap[w2.heap.size]? = some (.cells #[v1, u2, .int .i64 o] 25 (0, 0))
  hb : W.heap[w2.heap.size + 1]? = some (.cells #[.int .i64 hn, .int .i64 ha] 47 (0, 0))
  g : W.ownsRow (w2.heap.size + 2) 47 2 u2 l.length (l.flatMap Hld.cs)
  bel : Below w2.heap.size w2 W
theorem HiAt.below {w2 W W' : World} {v1 u2 : Value} {o hn ha : Int} {l : List Hld} (h : HiAt w2 W v1 o hn ha u2 l) (hb : Below W.heap.size W W') : HiAt w2 W' v1 o hn ha u2 l :=
  ⟨heap_below h.ob hb, heap_below h.hb hb, own_below h.g hb, bThen h.bel hb⟩
theorem HiAt.push {w2 W W' : World} {v1 u2 v : Value} {o hn ha : Int} {l : List Hld} (h : HiAt w2 W v1 o hn ha u2 l) (x : Hld) (ho : W'.ownsRow (w2.heap.size + 2) 47 2 v (l.length + 1) (l.flatMap Hld.cs ++ x.cs)) (hb : Below (w2.heap.size + 2) W W') :
    HiAt w2 (W'.setCell ⟨w2.heap.size, 1, none⟩ v) v1 o hn ha v (l ++ [x]) := by
  have hlow : ∀ k, k < w2.heap.size + 2 → W'.heap[k]? = W.heap[k]? := fun k hlt => hb.block k hlt
  refine ⟨?_, (Below.heap_setCell _ _ _ _ (by simp)).trans ((hlow _ (by omega)).trans h.hb), ?_, (h.bel.trans (hb.mono (Nat.le_add_right _ _))).setCell (Nat.le_refl _) _⟩
  · simpa using blk_set ((hlow _ (by omega)).trans h.ob) 1 v
  · rw [List.length_append, List.flatMap_append]
    exact own_set (by simpa using ho) (by show w2.heap.size < _; omega) _
def HiRel (rs : List Hld) (h : Hld) (w2 : World) (v1 : Value) (o : Int) (b i : Value) (wr : World) : Prop :=
  ∃ (k : Nat) (u2 : Value), k ≤ rs.length ∧ i = .int .i64 k ∧ b = .bool (insF h (rs.take k)).2 ∧ HiAt w2 wr v1 o h.no h.at_ u2 (insF h (rs.take k)).1
set_option maxRecDepth 100000 in
set_option maxHeartbeats 4000000 in
theorem rhold_any (li : List Inp) (lh : List Hld) (o no t : Int) (v : Value) (w : World) (h : MarksAt w v li lh o) (l2 : lh.length ≤ 900000) :
    Calls Try.prog 44 #[v, .int .i64 no, .int .i64 t] w (MksTo (holdM li lh o no t) w) := by
  have HM := Lib.hid h
  obtain ⟨vi, vh, rfl, r1, r2, -⟩ := h
  have R1 := Lib.hid r1
  have R2 := Lib.hid r2
  obtain ⟨q, hq⟩ : ∃ q, rightM li lh o = q := ⟨_, rfl⟩
  have HQ := Lib.hid hq
  have HR := Lib.hid (fun W (hm : MarksAt W (.agg #[vi, vh, .int .i64 o]) li lh o) => rmright_any li lh o _ W hm q hq)
  obtain ⟨A1, q1, rfl, -⟩ := r1
  obtain ⟨A2, q2, rfl, -⟩ := r2
  have HWO := Lib.hid (fun (W : World) (h2 : Row Hld.cs 2 W (.slice A2 lh.length q2) lh) => without_any lh no _ W h2 (by omega))
  have HRL := Lib.hid (remH_le lh no)
  obtain ⟨R, hR⟩ : ∃ R, holdM li lh o no t = R := ⟨_, rfl⟩
  have HO := Lib.hid hR
  rw [hR]
  clear hq hR
  obtain ⟨iH, hi, hi0, hi1, hi2⟩ := info_parts info_hd
  have HI := Lib.hid hi
  have HI0 := Lib.hid hi0
  have HI1 := Lib.hid hi1
  have HI2 := Lib.hid hi2
  clear hi hi0 hi1 hi2
  go_enter Try.func44, Try.ntmps44
  unfold MksTo
  go_wp2_with fail
  obtain ⟨W1, hW2⟩ : ∃ X, X = ((w).alloc (.cells #[.slice A1 li.length q1, .slice A2 lh.length q2, .int .i64 o] 25)).alloc (.cells #[.slice none 0 0, .slice none 0 0, .int .i64 0] 25) := ⟨_, rfl⟩
  rw [← hW2]
  have hb3 : Below w.heap.size w W1 := by rw [hW2]; exact bel_alloc (bel_alloc (Below.refl _ _) _) _
  have Ns := Lib.hid (show W1.heap[w.heap.size]? = some (.cells #[.slice A1 li.length q1, .slice A2 lh.length q2, .int .i64 o] 25 (0, 0)) by rw [hW2]; exact heap_below (heap_at (w) _ (w.heap.size) (by simp)) (bel_alloc (Below.refl _ _) _))
  have Nz := Lib.hid (show W1.heap[w.heap.size + 1]? = some (.cells #[.slice none 0 0, .slice none 0 0, .int .i64 0] 25 (0, 0)) by rw [hW2]; exact heap_at ((w).alloc (.cells #[.slice A1 li.length q1, .slice A2 lh.length q2, .int .i64 o] 25)) _ (w.heap.size + 1) (by simp))
  clear hW2
  have BB4 := Lib.hid hb3
  clear hb3
  have Bls := Ns
  clear Ns
  have Blz := Nz
  clear Nz
  have MW := Lib.hid (HM.out.below BB4.out)
  refine (HR.out _ MW.out).mono ?_
  rintro e w5 ⟨rfl, hb6⟩
  have Z := Lib.hid (heap_below Bls.out hb6)
  clear Bls
  have Bls := Z
  clear Z
  have Z := Lib.hid (heap_below Blz.out hb6)
  clear Blz
  have Blz := Z
  clear Z
  have BB7 := Lib.hid (bThen BB4.out hb6)
  clear hb6
  clear MW HR
  have zs := blk_lt Bls.out
  have xs0 := cellsAt Bls.out 0
  have xs1 := cellsAt Bls.out 1
  have xs2 := cellsAt Bls.out 2
  have fs := frozAt Bls.out
  simp at xs0 xs1 xs2
  have zz := blk_lt Blz.out
  have xz0 := cellsAt Blz.out 0
  have xz1 := cellsAt Blz.out 1
  have xz2 := cellsAt Blz.out 2
  have fz := frozAt Blz.out
  simp at xz0 xz1 xz2
  cases q with
  | false =>
    have HOF := HO.out
    unfold holdM at HOF
    rw [if_neg (by rw [HQ.out]; simp)] at HOF
    subst HOF
    go_wp2_with fail
    exact bodyPost_ret (v := .tuple #[.agg #[.slice none 0 0, .slice none 0 0, .int .i64 0], .int .i64 1]) (by simp [results, Try.results44, go_sem, xz0, xz1, xz2]) rfl ⟨_, _, rfl, Row.none_, Row.none_, belC3 BB7.out (by omega) _ _ _⟩
  | true =>
  by_cases h0 : no < 0
  · have t0 : decide (no < 0) = true := by simpa using h0
    have HOF := HO.out
    unfold holdM at HOF
    rw [if_neg (by simp; omega)] at HOF
    subst HOF
    go_wp2_with fail
    exact bodyPost_ret (v := .tuple #[.agg #[.slice none 0 0, .slice none 0 0, .int .i64 0], .int .i64 1]) (by simp [results, Try.results44, go_sem, xz0, xz1, xz2]) rfl ⟨_, _, rfl, Row.none_, Row.none_, belC3 BB7.out (by omega) _ _ _⟩
  · have t0 : decide (no < 0) = false := by simpa using h0
    have HOK := Lib.hid (show (rightM li lh o && decide (0 ≤ no)) = true by rw [HQ.out]; simp; omega)
    have HSR := Lib.hid (srt_of (right_holds HQ.out).1)
    go_wp2_with fail
    refine (HWO.out _ (R2.out.below BB7.out)).mono ?_
    rintro e w8 ⟨vr, rfl, hown, hb9⟩
    obtain ⟨Ar, cr, rfl⟩ := own_slice hown
    have HRR := Lib.hid (Row.of_own Hld.cs_len hown rfl)
    clear hown
    clear zs fs xs0 xs1 xs2 zz fz xz0 xz1 xz2
    have Z := Lib.hid (heap_below Bls.out hb9)
    clear Bls
    have Bls := Z
    clear Z
    have Z := Lib.hid (heap_below Blz.out hb9)
    clear Blz
    have Blz := Z
    clear Z
    have BB10 := Lib.hid (bThen BB7.out hb9)
    clear hb9
    have hrl := HRL.out
    obtain ⟨rs, hrs⟩ : ∃ rs, remH lh no = rs := ⟨_, rfl⟩
    have HRS := Lib.hid hrs
    rw [hrs] at hrl HRR ⊢
    clear hrs
    obtain ⟨m, hm⟩ : ∃ m, rs.length = m := ⟨_, rfl⟩
    have HMM := Lib.hid hm
    rw [hm] at hrl HRR ⊢
    clear hm
    have hzw := blk_lt Blz.out
    have zs := blk_lt Bls.out
    have xs0 := cellsAt Bls.out 0
    have xs1 := cellsAt Bls.out 1
    have xs2 := cellsAt Bls.out 2
    have fs := frozAt Bls.out
    simp at xs0 xs1 xs2
    go_wp2_with fail
    refine (rclamp_any _ _).mono ?_
    rintro e w9 ⟨rfl, rfl⟩
    go_wp2_with fail
    clear zs fs xs0 xs1 xs2
    obtain ⟨Ws, hWs⟩ : ∃ W, W = (w8.alloc (.cells #[.slice A1 li.length q1, .slice none 0 0, .int .i64 o] 25)).alloc (.cells #[.int .i64 no, .int .i64 (clampT t)] 47) := ⟨_, rfl⟩
    rw [← hWs]
    have HA := Lib.hid (show HiAt w8 Ws (.slice A1 li.length q1) o no (clampT t) (.slice none 0 0) [] by rw [hWs]; exact ⟨heap_below (heap_at _ _ _ rfl) (bel_alloc (Below.refl _ _) _), heap_at _ _ _ (by simp), World.ownsRow_nil _ _ _ _, bel_alloc (bel_alloc (Below.refl _ _) _) _⟩)
    clear hWs
    go_loopw [12, 41] (fun b i wr => HiRel rs ⟨no, clampT t⟩ w8 (.slice A1 li.length q1) o b i wr) (fun _ i _ => m - (intOf i).toNat)
    case atStart => exact ⟨0, _, Nat.zero_le _, rfl, rfl, HA.out⟩
    case round =>
      clear HA
      obtain ⟨k, u2, hk, rfl, rfl, hha⟩ := hrel
      rw [HMM.out] at hk
      have HH := Lib.hid hha
      clear hha
      have hil := insF_len ⟨no, clampT t⟩ (rs.take k)
      have hil2 : (rs.take k).length ≤ k := by rw [List.length_take]; omega
      obtain ⟨st, hst⟩ : ∃ st, insF ⟨no, clampT t⟩ (rs.take k) = st := ⟨_, rfl⟩
      have HST := Lib.hid hst
      rw [hst] at hil HH ⊢
      clear hst
      obtain ⟨L, P⟩ := st
      simp only at hil HH ⊢
      obtain ⟨n, hn⟩ : ∃ n, L.length = n := ⟨_, rfl⟩
      have HN := Lib.hid hn
      obtain ⟨Au, cu, rfl⟩ : ∃ A c, u2 = .slice A n c := by rw [← hn]; exact own_slice HH.out.g
      rw [hn] at hil
      clear hn
      have hnk : n ≤ k + 1 := by omega
      clear hil hil2
      by_cases hlt : k < m
      · obtain ⟨y, hy⟩ : ∃ y, rs[k]? = some y := ⟨_, List.getElem?_eq_getElem (by rw [HMM.out]; exact hlt)⟩
        have HY := Lib.hid hy
        obtain ⟨b', o', c', e', hc', hb', hX⟩ := (HRR.out.below HH.out.bel).at_ hy
        injection e' with e1 e2 e3
        clear e2
        subst e1 e3
        have c0 := hX 0 _ rfl
        have c1 := hX 1 _ rfl
        clear hX hy
        obtain ⟨y0, y1⟩ := y
        simp only [Nat.add_zero] at c0 c1
        have HT := Lib.hid (show insF ⟨no, clampT t⟩ (rs.take (k + 1)) = insH ⟨no, clampT t⟩ (L, P) ⟨y0, y1⟩ by rw [List.take_add_one, HY.out]; exact (insF_snoc _ _ _).trans (by rw [HST.out]))
        cases P with
        | true =>
          go_upto_region 13 with fail
          clear c0 c1
          obtain ⟨W4, hW4⟩ : ∃ W4, W4 = wr.alloc (.cells #[.int .i64 y0, .int .i64 y1] 47) := ⟨_, rfl⟩
          rw [← hW4]
          have X4 := Lib.hid (show W4.heap[wr.heap.size]? = some (.cells #[.int .i64 y0, .int .i64 y1] 47 (0, 0)) by rw [hW4]; exact heap_at _ _ _ rfl)
          have H4 := Lib.hid (show HiAt w8 W4 (.slice A1 li.length q1) o no (clampT t) (.slice Au n cu) L by rw [hW4]; exact HH.out.below (bel_alloc (Below.refl _ _) _))
          have hyb := Lib.hid (show (Value.slice Au n cu).ownBlock ≠ some wr.heap.size from fun e => absurd (HH.out.g.lt _ e).2 (Nat.lt_irrefl _))
          have hw24 := Lib.hid (show w8.heap.size + 2 ≤ wr.heap.size by have := blk_lt HH.out.hb; omega)
          have hws : wr.heap.size < W4.heap.size := blk_lt X4.out
          clear hW4 HH
          have xo1 := cellsAt H4.out.ob 1
          have fo := frozAt H4.out.ob
          have zo := blk_lt H4.out.ob
          have xy0 := cellsAt X4.out 0
          have xy1 := cellsAt X4.out 1
          simp at xo1 xy0 xy1
          have hw25 := hw24.out
          have O1 := H4.out.g
          rw [HN.out] at O1
          go_wp2_with (at_builtin; refine wpList_push _ rfl _ _ 23 rfl (w8.heap.size + 2) 47 iH (.agg #[.int .i64 0, .int .i64 0]) 2 16 Try.underlying23 HI.out HI0.out HI1.out HI2.out rfl (by decide) _ _ _ rfl O1 #[.int .i64 y0, .int .i64 y1] 47 rfl rfl (by intro u hu; simp at hu; rcases hu with rfl | rfl <;> rfl) (by unfold maxLen; omega) (by omega) (by omega) ?_)
          intro vW5 W5 hown5 BG hblk
          obtain ⟨A5, c5, rfl⟩ := own_slice hown5
          have H5 := Lib.hid (H4.out.push ⟨y0, y1⟩ (v := .slice A5 (n + 1) c5) (by rw [HN.out]; exact hown5) BG)
          have xo1 := (BG.cell (p := ⟨w8.heap.size, 1, none⟩) (by simp)).trans xo1
          have fo := (BG.frozen (p := ⟨w8.heap.size, 1, none⟩) (by simp)).trans (fo 1)
          have zo5 : w8.heap.size < W5.heap.size := Nat.lt_of_lt_of_le zo BG.size
          clear hown5 BG hblk O1 zo xy0 xy1 X4 H4 hws hyb hw24 hw25
          go_wp2_with fail
          go_roundw
          case rel =>
            refine ⟨k + 1, .slice A5 (n + 1) c5, by rw [HMM.out]; omega, by go_num, ?_, ?_⟩
            · rw [HT.out]; unfold insH; rw [if_neg (by simp)]
            · rw [HT.out]; unfold insH; rw [if_neg (by simp)]; exact H5.out
          case measure => simp [intOf]; omega
        | false =>
          by_cases hgt : no < y0
          · have tN : decide (no < y0) = true := by simpa using hgt
            go_upto_region 11 with fail
            clear c0 c1
            obtain ⟨W4, hW4⟩ : ∃ W4, W4 = wr.alloc (.cells #[.int .i64 y0, .int .i64 y1] 47) := ⟨_, rfl⟩
            rw [← hW4]
            have X4 := Lib.hid (show W4.heap[wr.heap.size]? = some (.cells #[.int .i64 y0, .int .i64 y1] 47 (0, 0)) by rw [hW4]; exact heap_at _ _ _ rfl)
            have H4 := Lib.hid (show HiAt w8 W4 (.slice A1 li.length q1) o no (clampT t) (.slice Au n cu) L by rw [hW4]; exact HH.out.below (bel_alloc (Below.refl _ _) _))
            have hyb := Lib.hid (show (Value.slice Au n cu).ownBlock ≠ some wr.heap.size from fun e => absurd (HH.out.g.lt _ e).2 (Nat.lt_irrefl _))
            have hw24 := Lib.hid (show w8.heap.size + 2 ≤ wr.heap.size by have := blk_lt HH.out.hb; omega)
            have hws : wr.heap.size < W4.heap.size := blk_lt X4.out
            clear hW4 HH
            have xo1 := cellsAt H4.out.ob 1
            have fo := frozAt H4.out.ob
            have zo := blk_lt H4.out.ob
            have xh0 := cellsAt H4.out.hb 0
            have xh1 := cellsAt H4.out.hb 1
            have zh := blk_lt H4.out.hb
            simp at xo1 xh0 xh1
            have hw25 := hw24.out
            have O1 := H4.out.g
            rw [HN.out] at O1
            go_wp2_with (at_builtin; refine wpList_push _ rfl _ _ 23 rfl (w8.heap.size + 2) 47 iH (.agg #[.int .i64 0, .int .i64 0]) 2 16 Try.underlying23 HI.out HI0.out HI1.out HI2.out rfl (by decide) _ _ _ rfl O1 #[.int .i64 no, .int .i64 (clampT t)] 47 rfl rfl (by intro u hu; simp at hu; rcases hu with rfl | rfl <;> rfl) (by unfold maxLen; omega) (by omega) (by omega) ?_)
            intro vW5 W5 hown5 BG hblk
            obtain ⟨A5, c5, rfl⟩ := own_slice hown5
            have H5 := Lib.hid (H4.out.push ⟨no, clampT t⟩ (v := .slice A5 (n + 1) c5) (by rw [HN.out]; exact hown5) BG)
            have X6 := Lib.hid ((Below.heap_setCell W5 ⟨w8.heap.size, 1, none⟩ (.slice A5 (n + 1) c5) wr.heap.size (by show wr.heap.size ≠ w8.heap.size; omega)).trans ((hblk _ hws hyb.out).trans X4.out))
            have xo1 := (BG.cell (p := ⟨w8.heap.size, 1, none⟩) (by simp)).trans xo1
            have fo := (BG.frozen (p := ⟨w8.heap.size, 1, none⟩) (by simp)).trans (fo 1)
            have zo5 : w8.heap.size < W5.heap.size := Nat.lt_of_lt_of_le zo BG.size
            clear hown5 BG hblk O1 zo xh0 xh1 zh X4 H4 hws hyb
            go_upto_region 13 with fail
            clear xo1 fo zo5
            generalize W5.setCell ⟨w8.heap.size, 1, none⟩ (.slice A5 (n + 1) c5) = W6 at *
            have HN1 := Lib.hid (show (L ++ [(⟨no, clampT t⟩ : Hld)]).length = n + 1 by rw [List.length_append, HN.out]; rfl)
            have xo1 := cellsAt H5.out.ob 1
            have fo := frozAt H5.out.ob
            have zo := blk_lt H5.out.ob
            have xy0 := cellsAt X6.out 0
            have xy1 := cellsAt X6.out 1
            have zy := blk_lt X6.out
            simp at xo1 xy0 xy1
            have O1 := H5.out.g
            rw [HN1.out] at O1
            go_wp2_with (at_builtin; refine wpList_push _ rfl _ _ 23 rfl (w8.heap.size + 2) 47 iH (.agg #[.int .i64 0, .int .i64 0]) 2 16 Try.underlying23 HI.out HI0.out HI1.out HI2.out rfl (by decide) _ _ _ rfl O1 #[.int .i64 y0, .int .i64 y1] 47 rfl rfl (by intro u hu; simp at hu; rcases hu with rfl | rfl <;> rfl) (by unfold maxLen; omega) (by omega) (by omega) ?_)
            intro vW7 W7 hown5 BG hblk
            obtain ⟨A7, c7, rfl⟩ := own_slice hown5
            have H7 := Lib.hid (H5.out.push ⟨y0, y1⟩ (v := .slice A7 (n + 1 + 1) c7) (by rw [HN1.out]; simpa [Hld.cs, List.flatMap_append] using hown5) BG)
            have xo1 := (BG.cell (p := ⟨w8.heap.size, 1, none⟩) (by simp)).trans xo1
            have fo := (BG.frozen (p := ⟨w8.heap.size, 1, none⟩) (by simp)).trans (fo 1)
            have zo5 : w8.heap.size < W7.heap.size := Nat.lt_of_lt_of_le zo BG.size
            clear hown5 BG hblk O1 zo xy0 xy1 zy X6 H5 hw24 hw25
            go_wp2_with fail
            go_roundw
            case rel =>
              refine ⟨k + 1, .slice A7 (n + 1 + 1) c7, by rw [HMM.out]; omega, by go_num, ?_, ?_⟩
              · rw [HT.out]; unfold insH; rw [if_pos ⟨rfl, hgt⟩]
              · rw [HT.out]; unfold insH; rw [if_pos ⟨rfl, hgt⟩]; exact H7.out
            case measure => simp [intOf]; omega
          · have tN : decide (no < y0) = false := by simpa using hgt
            go_upto_region 13 with fail
            clear c0 c1
            obtain ⟨W4, hW4⟩ : ∃ W4, W4 = wr.alloc (.cells #[.int .i64 y0, .int .i64 y1] 47) := ⟨_, rfl⟩
            rw [← hW4]
            have X4 := Lib.hid (show W4.heap[wr.heap.size]? = some (.cells #[.int .i64 y0, .int .i64 y1] 47 (0, 0)) by rw [hW4]; exact heap_at _ _ _ rfl)
            have H4 := Lib.hid (show HiAt w8 W4 (.slice A1 li.length q1) o no (clampT t) (.slice Au n cu) L by rw [hW4]; exact HH.out.below (bel_alloc (Below.refl _ _) _))
            have hyb := Lib.hid (show (Value.slice Au n cu).ownBlock ≠ some wr.heap.size from fun e => absurd (HH.out.g.lt _ e).2 (Nat.lt_irrefl _))
            have hw24 := Lib.hid (show w8.heap.size + 2 ≤ wr.heap.size by have := blk_lt HH.out.hb; omega)
            have hws : wr.heap.size < W4.heap.size := blk_lt X4.out
            clear hW4 HH
            have xo1 := cellsAt H4.out.ob 1
            have fo := frozAt H4.out.ob
            have zo := blk_lt H4.out.ob
            have xy0 := cellsAt X4.out 0
            have xy1 := cellsAt X4.out 1
            simp at xo1 xy0 xy1
            have hw25 := hw24.out
            have O1 := H4.out.g
            rw [HN.out] at O1
            go_wp2_with (at_builtin; refine wpList_push _ rfl _ _ 23 rfl (w8.heap.size + 2) 47 iH (.agg #[.int .i64 0, .int .i64 0]) 2 16 Try.underlying23 HI.out HI0.out HI1.out HI2.out rfl (by decide) _ _ _ rfl O1 #[.int .i64 y0, .int .i64 y1] 47 rfl rfl (by intro u hu; simp at hu; rcases hu with rfl | rfl <;> rfl) (by unfold maxLen; omega) (by omega) (by omega) ?_)
            intro vW5 W5 hown5 BG hblk
            obtain ⟨A5, c5, rfl⟩ := own_slice hown5
            have H5 := Lib.hid (H4.out.push ⟨y0, y1⟩ (v := .slice A5 (n + 1) c5) (by rw [HN.out]; exact hown5) BG)
            have xo1 := (BG.cell (p := ⟨w8.heap.size, 1, none⟩) (by simp)).trans xo1
            have fo := (BG.frozen (p := ⟨w8.heap.size, 1, none⟩) (by simp)).trans (fo 1)
            have zo5 : w8.heap.size < W5.heap.size := Nat.lt_of_lt_of_le zo BG.size
            clear hown5 BG hblk O1 zo xy0 xy1 X4 H4 hws hyb hw24 hw25
            go_wp2_with fail
            go_roundw
            case rel =>
              refine ⟨k + 1, .slice A5 (n + 1) c5, by rw [HMM.out]; omega, by go_num, ?_, ?_⟩
              · rw [HT.out]; unfold insH; rw [if_neg (fun e => by have h9 := e.2; simp only at h9; omega)]
              · rw [HT.out]; unfold insH; rw [if_neg (fun e => by have h9 := e.2; simp only at h9; omega)]; exact H5.out
            case measure => simp [intOf]; omega
      · obtain rfl : k = m := by omega
        have hk2 : rs.take k = rs := List.take_of_length_le (by rw [HMM.out]; exact Nat.le_refl _)
        have hput := ins_put HSR.out no t
        rw [HRS.out] at hput
        have hst2 := HST.out
        rw [hk2] at hst2
        rw [hst2] at hput
        have HPUT := Lib.hid hput
        clear hput hst2 hk2
        have Blz2 := Lib.hid (heap_below Blz.out HH.out.bel)
        cases P with
        | true =>
          have heq : L = putH lh no t := by rcases HPUT.out with h | h; exact h.2; (have := h.1; simp at this)
          have hpl : (putH lh no t).length = n := by rw [← heq]; exact HN.out
          have HEQ := Lib.hid heq
          have xo0 := cellsAt HH.out.ob 0
          have xo1 := cellsAt HH.out.ob 1
          have xo2 := cellsAt HH.out.ob 2
          have fo := frozAt HH.out.ob
          have zo := blk_lt HH.out.ob
          simp at xo0 xo1 xo2
          have xz0 := cellsAt Blz2.out 0
          have xz1 := cellsAt Blz2.out 1
          have xz2 := cellsAt Blz2.out 2
          have fz := frozAt Blz2.out
          have zz := blk_lt Blz2.out
          simp at xz0 xz1 xz2
          by_cases h33 : 32 < n
          · have t5 : decide (32 < ((n : Nat) : Int)) = true := by simp; omega
            have t6 : decide ((32 : Int) < (n : Int)) = true := by simp; omega
            have HOF := HO.out
            unfold holdM at HOF
            rw [if_pos HOK.out, if_neg (by rw [hpl]; omega)] at HOF
            subst HOF
            go_wp2_with fail
            exact bodyPost_ret (v := .tuple #[.agg #[.slice none 0 0, .slice none 0 0, .int .i64 0], .int .i64 3]) (by simp [results, Try.results44, go_sem, xz0, xz1, xz2]) rfl ⟨_, _, rfl, Row.none_, Row.none_, belC3 (bThen BB10.out HH.out.bel) (by omega) _ _ _⟩
          · have t5 : decide (32 < ((n : Nat) : Int)) = false := by simp; omega
            have t6 : decide ((32 : Int) < (n : Int)) = false := by simp; omega
            have HOF := HO.out
            unfold holdM at HOF
            rw [if_pos HOK.out, if_pos (by rw [hpl]; omega)] at HOF
            subst HOF
            go_wp2_with fail
            have hzb : w.heap.size + 1 < w8.heap.size + 2 := by omega
            have O9 := Lib.hid (ownC3 HH.out.g (g := w.heap.size + 1) hzb (.slice A1 li.length q1) (.slice Au (n) cu) (.int .i64 o))
            have BE := Lib.hid (belC3 (bThen BB10.out HH.out.bel) (g := w.heap.size + 1) (by omega) (.slice A1 li.length q1) (.slice Au (n) cu) (.int .i64 o))
            rw [HN.out] at O9
            rw [HEQ.out] at O9
            exact bodyPost_ret (v := .tuple #[.agg #[.slice A1 li.length q1, .slice Au (n) cu, .int .i64 o], .int .i64 0]) (by simp [results, Try.results44, go_sem, xz0, xz1, xz2]) rfl ⟨_, _, rfl, R1.out.below BE.out, Row.of_own Hld.cs_len O9.out hpl.symm, BE.out⟩
        | false =>
          have heq : L ++ [(⟨no, clampT t⟩ : Hld)] = putH lh no t := by rcases HPUT.out with h | h; (have := h.1; simp at this); exact h.2
          have HN1 := Lib.hid (show (L ++ [(⟨no, clampT t⟩ : Hld)]).length = n + 1 by rw [List.length_append, HN.out]; rfl)
          have xo1 := cellsAt HH.out.ob 1
          have fo := frozAt HH.out.ob
          have zo := blk_lt HH.out.ob
          have xh0 := cellsAt HH.out.hb 0
          have xh1 := cellsAt HH.out.hb 1
          have zh := blk_lt HH.out.hb
          simp at xo1 xh0 xh1
          have hw25 : w8.heap.size + 2 ≤ wr.heap.size := by omega
          have O1 := HH.out.g
          rw [HN.out] at O1
          go_wp2_with (at_builtin; refine wpList_push _ rfl _ _ 23 rfl (w8.heap.size + 2) 47 iH (.agg #[.int .i64 0, .int .i64 0]) 2 16 Try.underlying23 HI.out HI0.out HI1.out HI2.out rfl (by decide) _ _ _ rfl O1 #[.int .i64 no, .int .i64 (clampT t)] 47 rfl rfl (by intro u hu; simp at hu; rcases hu with rfl | rfl <;> rfl) (by unfold maxLen; omega) (by omega) (by omega) ?_)
          intro vW5 W5 hown5 BG hblk
          obtain ⟨A5, c5, rfl⟩ := own_slice hown5
          have H5 := Lib.hid (HH.out.push ⟨no, clampT t⟩ (v := .slice A5 (n + 1) c5) (by rw [HN.out]; exact hown5) BG)
          have xo1 := (BG.cell (p := ⟨w8.heap.size, 1, none⟩) (by simp)).trans xo1
          have fo := (BG.frozen (p := ⟨w8.heap.size, 1, none⟩) (by simp)).trans (fo 1)
          have zo5 : w8.heap.size < W5.heap.size := Nat.lt_of_lt_of_le zo BG.size
          clear hown5 BG hblk O1 zo xh0 xh1 zh HH hw25 Blz2
          go_upto_region 17 with fail
          clear xo1 fo zo5
          generalize W5.setCell ⟨w8.heap.size, 1, none⟩ (.slice A5 (n + 1) c5) = W6 at *
          have Blz2 := Lib.hid (heap_below Blz.out H5.out.bel)
          have hpl : (putH lh no t).length = n + 1 := by rw [← heq]; exact HN1.out
          have HEQ := Lib.hid heq
          have xo0 := cellsAt H5.out.ob 0
          have xo1 := cellsAt H5.out.ob 1
          have xo2 := cellsAt H5.out.ob 2
          have fo := frozAt H5.out.ob
          have zo := blk_lt H5.out.ob
          simp at xo0 xo1 xo2
          have xz0 := cellsAt Blz2.out 0
          have xz1 := cellsAt Blz2.out 1
          have xz2 := cellsAt Blz2.out 2
          have fz := frozAt Blz2.out
          have zz := blk_lt Blz2.out
          simp at xz0 xz1 xz2
          by_cases h33 : 32 < n + 1
          · have t5 : decide (32 < ((n + 1 : Nat) : Int)) = true := by simp; omega
            have t6 : decide ((32 : Int) < (n : Int) + 1) = true := by simp; omega
            have HOF := HO.out
            unfold holdM at HOF
            rw [if_pos HOK.out, if_neg (by rw [hpl]; omega)] at HOF
            subst HOF
            go_wp2_with fail
            exact bodyPost_ret (v := .tuple #[.agg #[.slice none 0 0, .slice none 0 0, .int .i64 0], .int .i64 3]) (by simp [results, Try.results44, go_sem, xz0, xz1, xz2]) rfl ⟨_, _, rfl, Row.none_, Row.none_, belC3 (bThen BB10.out H5.out.bel) (by omega) _ _ _⟩
          · have t5 : decide (32 < ((n + 1 : Nat) : Int)) = false := by simp; omega
            have t6 : decide ((32 : Int) < (n : Int) + 1) = false := by simp; omega
            have HOF := HO.out
            unfold holdM at HOF
            rw [if_pos HOK.out, if_pos (by rw [hpl]; omega)] at HOF
            subst HOF
            go_wp2_with fail
            have hzb : w.heap.size + 1 < w8.heap.size + 2 := by omega
            have O9 := Lib.hid (ownC3 H5.out.g (g := w.heap.size + 1) hzb (.slice A1 li.length q1) (.slice A5 (n + 1) c5) (.int .i64 o))
            have BE := Lib.hid (belC3 (bThen BB10.out H5.out.bel) (g := w.heap.size + 1) (by omega) (.slice A1 li.length q1) (.slice A5 (n + 1) c5) (.int .i64 o))
            rw [HN1.out] at O9
            rw [HEQ.out] at O9
            exact bodyPost_ret (v := .tuple #[.agg #[.slice A1 li.length q1, .slice A5 (n + 1) c5, .int .i64 o], .int .i64 0]) (by simp [results, Try.results44, go_sem, xz0, xz1, xz2]) rfl ⟨_, _, rfl, R1.out.below BE.out, Row.of_own Hld.cs_len O9.out hpl.symm, BE.out⟩
end Go.Proofs.Ytdanfeldbdooeaa
