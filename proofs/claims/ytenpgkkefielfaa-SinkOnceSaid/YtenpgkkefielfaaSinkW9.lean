/-
  WALKS of layer 19: the program's Add, that takes a result.
-/
import Derived.Test.YtenpgkkefielfaaSinkW8
import Derived.Deep.RegionLaw
set_option linter.unusedVariables false
set_option linter.unusedSimpArgs false
namespace Go.Proofs.Ytenpgkkefielfaa
open Go.RowKit

/-- append to a row of one's own, as a step of a region that draws. -/
theorem step_own {P : Program} {ops : Array Oper} {o : Oper} {a : Act} {w : World} {K : Act → World → Prop} {Q : Exit → Act → World → Prop} {E : Prop} (hgd : o.guard = none) (s x : Operand) (t : TypeId)
    (ho : o.op = .call { callee := .builtin .append, args := #[s, x], argTypes := #[t, t] })
    (base : Nat) (e : TypeId) (i : TypeInfo) (z : Value) (size bytes : Nat) (ht : P.underlying t = some (.slice e)) (hi : P.info? e = some i) (hz : i.zero = some z)
    (hsize : i.size = size) (hby : i.bytes = bytes) (hzs : z.cells.size = size) (hsz : 0 < size)
    (v : Value) (n : Nat) (xs : List Value) (hs : a.eval s = v) (hown : w.ownsRow base e size v n xs)
    (ad : Addr) (m c : Nat) (news : List Value) (hx : a.eval x = .slice (some ad) m c) (hl : news.length = m * size) (hnews : ∀ j u, news[j]? = some u → w.cell? (ad.add j) = some u) (h1 : ∀ u ∈ news, u.oneCell' = true)
    (h63 : n + m ≤ maxLen) (hbytes : (n + m) * bytes ≤ 140737488355328) (hbase : base ≤ w.heap.size)
    (h : ∀ v' w', w'.ownsRow base e size v' (n + m) (xs ++ news) → w.grownBy w' v.ownBlock → (v' = .slice none 0 0 ↔ v = .slice none 0 0 ∧ m = 0) → K (a.put o.dst v') w') :
    if Region.wanted o (yielded ops a.tmps) = true then Oper.wp P o a w K Q else E := by
  rw [if_pos (by simp [Region.wanted, hgd])]
  exact wp_append_own w s x t ho base e i z size bytes ht hi hz hsize hby hzs hsz v n xs hs hown ad m c news hx hl hnews h1 h63 hbytes hbase h

set_option maxRecDepth 100000 in
set_option maxHeartbeats 2000000 in
theorem sadd_yes (op : List Res) (st : List Stg) (last : Int) (out : List Res) (r : Res) (v : Value) (w : World) (hv : SinkAt w v op st last out) (h : rightS op st last out = true) (h2 : mayB r = true) (hwf : r.Wf) (h3 : cntS op st out < 20000) :
    Calls Try.prog 30 #[v, r.val] w fun e w' => ∃ v', e = .returned (.tuple #[v', .int .i64 0]) ∧ SinkAt w' v' (op ++ [r]) st last out ∧ Below w.heap.size w w' ∧ LocK w w' v v' := by
  have HR := Lib.hid (fun v W hW => sright_any op st last out v W hW true h)
  have HM := Lib.hid (fun W => may_any r W true h2)
  have HK := Lib.hid (fun v W hW => cloneR_any op v W hW (by have := (cnt_lens (op := op) (st := st) (out := out) (by omega)).1; omega))
  have hlo := (cnt_lens (op := op) (st := st) (out := out) (by omega)).1
  have HC := Lib.hid (fun v W hW => count_any op st last out v W hW)
  obtain ⟨cn, hcn⟩ : ∃ cn, cntS op st out = cn := ⟨_, rfl⟩
  rw [hcn] at h3 HC
  obtain ⟨vo, vs, vu, ev, hR1, hR2, hR4, hR3⟩ := hv
  have R2 := Lib.hid hR2
  have R3 := Lib.hid hR3
  have hW1 := hR1.2.1
  have H4 := Lib.hid hR4
  have R1 := Lib.hid hR1
  have hv : SinkAt w v op st last out := ⟨vo, vs, vu, ev, hR1, hR2, hR4, hR3⟩
  clear hR1 hR2 hR3 hR4
  obtain ⟨i0, hi, hi0, hi1, hi2⟩ := info_parts info_rs
  have HI := Lib.hid hi
  have HZ0 := Lib.hid hi0
  have HZ1 := Lib.hid hi1
  have HZ2 := Lib.hid hi2
  clear hi hi0 hi1 hi2
  clear h h2 hcn
  have HV := Lib.hid hv
  obtain ⟨A1, c1, A2, c2, A3, c3, ev2⟩ := sink_form hv
  subst ev2
  injection ev with ev
  injection ev with ev
  simp at ev
  obtain ⟨rfl, rfl, rfl⟩ := ev
  obtain ⟨rl, rh, rk, rn, rv⟩ := r
  clear hv
  unfold Res.val at HM ⊢
  skip
  go_enter Try.func30, Try.ntmps30
  go_wp2_with fail
  obtain ⟨W1, hW1⟩ : ∃ W1, W1 = ((w.alloc (.cells #[.slice A1 op.length c1, .slice A2 st.length c2, .int .i64 last, .slice A3 out.length c3] 66)).alloc (.cells #[.int .i64 rl, .int .i64 rh, .string rk, .int .i64 rn, .int .i64 rv] 41)).alloc (.cells #[.slice none 0 0, .slice none 0 0, .int .i64 0, .slice none 0 0] 66) := ⟨_, rfl⟩
  rw [← hW1]
  have BW := Lib.hid (show Below w.heap.size w W1 by rw [hW1]; exact bel_alloc (bel_alloc (bel_alloc (Below.refl _ _) _) _) _)
  have K2 := Lib.hid (show W1.heap[w.heap.size + 1 + 1]? = some (.cells #[.slice none 0 0, .slice none 0 0, .int .i64 0, .slice none 0 0] 66 (0, 0)) by rw [hW1]; exact heap_at _ _ _ (by simp))
  have K1 := Lib.hid (show W1.heap[w.heap.size + 1]? = some (.cells #[.int .i64 rl, .int .i64 rh, .string rk, .int .i64 rn, .int .i64 rv] 41 (0, 0)) by rw [hW1]; exact heap_below (heap_at (w.alloc _) _ (w.heap.size + 1) (by simp)) (bel_alloc (Below.refl _ _) _))
  have K0 := Lib.hid (show W1.heap[w.heap.size]? = some (.cells #[.slice A1 op.length c1, .slice A2 st.length c2, .int .i64 last, .slice A3 out.length c3] 66 (0, 0)) by rw [hW1]; exact newA (bel_alloc (bel_alloc (Below.refl _ _) _) _))
  clear hW1
  refine (HR.out _ _ (HV.out.below BW.out)).mono ?_
  rintro e w1 ⟨rfl, hb1⟩
  have B1 := Lib.hid (bThen BW.out hb1)
  have L0 := Lib.hid (heap_below K0.out hb1)
  have L1 := Lib.hid (heap_below K1.out hb1)
  have L2 := Lib.hid (heap_below K2.out hb1)
  clear hb1 K0 K1 K2
  have hz2 := blk_lt L2.out
  have hz1 := blk_lt L1.out
  have hz0 := blk_lt L0.out
  have d0 := cellsAt L2.out 0
  have d1 := cellsAt L2.out 1
  have d2 := cellsAt L2.out 2
  have d3 := cellsAt L2.out 3
  have fz := frozAt L2.out
  have s0 := cellsAt L0.out 0
  have s1 := cellsAt L0.out 1
  have s2 := cellsAt L0.out 2
  have s3 := cellsAt L0.out 3
  have sz := frozAt L0.out
  have r0 := cellsAt L1.out 0
  have r1 := cellsAt L1.out 1
  have r2 := cellsAt L1.out 2
  have r3 := cellsAt L1.out 3
  have r4 := cellsAt L1.out 4
  simp at d0 d1 d2 d3 s0 s1 s2 s3 r0 r1 r2 r3 r4
  go_wp2_with fail
  refine (HM.out _).mono ?_
  rintro e w2 ⟨rfl, hb2⟩
  have B2 := Lib.hid (bThen B1.out hb2)
  have M0 := Lib.hid (heap_below L0.out hb2)
  have M1 := Lib.hid (heap_below L1.out hb2)
  have M2 := Lib.hid (heap_below L2.out hb2)
  clear hb2 L0 L1 L2
  clear d0 d1 d2 d3 s0 s1 s2 s3 r0 r1 r2 r3 r4 hz0 hz1 hz2 fz sz
  have hz2 := blk_lt M2.out
  have hz1 := blk_lt M1.out
  have hz0 := blk_lt M0.out
  have d0 := cellsAt M2.out 0
  have d1 := cellsAt M2.out 1
  have d2 := cellsAt M2.out 2
  have d3 := cellsAt M2.out 3
  have fz := frozAt M2.out
  have s0 := cellsAt M0.out 0
  have s1 := cellsAt M0.out 1
  have s2 := cellsAt M0.out 2
  have s3 := cellsAt M0.out 3
  have sz := frozAt M0.out
  have r0 := cellsAt M1.out 0
  have r1 := cellsAt M1.out 1
  have r2 := cellsAt M1.out 2
  have r3 := cellsAt M1.out 3
  have r4 := cellsAt M1.out 4
  simp at d0 d1 d2 d3 s0 s1 s2 s3 r0 r1 r2 r3 r4
  go_wp2_with fail
  refine (HC.out _ _ (HV.out.below B2.out)).mono ?_
  rintro e w3 ⟨rfl, hb3⟩
  have B3 := Lib.hid (bThen B2.out hb3)
  have N0 := Lib.hid (heap_below M0.out hb3)
  have N1 := Lib.hid (heap_below M1.out hb3)
  have N2 := Lib.hid (heap_below M2.out hb3)
  clear hb3 M0 M1 M2
  clear d0 d1 d2 d3 s0 s1 s2 s3 r0 r1 r2 r3 r4 hz0 hz1 hz2 fz sz
  have hz2 := blk_lt N2.out
  have hz1 := blk_lt N1.out
  have hz0 := blk_lt N0.out
  have d0 := cellsAt N2.out 0
  have d1 := cellsAt N2.out 1
  have d2 := cellsAt N2.out 2
  have d3 := cellsAt N2.out 3
  have fz := frozAt N2.out
  have s0 := cellsAt N0.out 0
  have s1 := cellsAt N0.out 1
  have s2 := cellsAt N0.out 2
  have s3 := cellsAt N0.out 3
  have sz := frozAt N0.out
  have r0 := cellsAt N1.out 0
  have r1 := cellsAt N1.out 1
  have r2 := cellsAt N1.out 2
  have r3 := cellsAt N1.out 3
  have r4 := cellsAt N1.out 4
  simp at d0 d1 d2 d3 s0 s1 s2 s3 r0 r1 r2 r3 r4
  go_wp2_with fail
  have R1' := R1.out.1.below B3.out
  go_region_law (first | (go_simp; go_at_call 56; refine (HK.out _ _ (by first | assumption | exact Row.alloc (by assumption) _)).mono ?_; rintro e w4 ⟨v4, rfl, hown, hb4⟩; obtain ⟨A4, c4, rfl⟩ := own_slice hown; try have q0 := (hb4.cell (p := ⟨w.heap.size + 1, 0, none⟩) (by assumption)).trans (by assumption : _ = some (Value.int .i64 rl)); try have q1 := (hb4.cell (p := ⟨w.heap.size + 1, 1, none⟩) (by assumption)).trans (by assumption : _ = some (Value.int .i64 rh)); try have q2 := (hb4.cell (p := ⟨w.heap.size + 1, 2, none⟩) (by assumption)).trans (by assumption : _ = some (Value.string rk)); try have q3 := (hb4.cell (p := ⟨w.heap.size + 1, 3, none⟩) (by assumption)).trans (by assumption : _ = some (Value.int .i64 rn)); try have q4 := (hb4.cell (p := ⟨w.heap.size + 1, 4, none⟩) (by assumption)).trans (by assumption : _ = some (Value.int .i64 rv)); try have q5 := (hb4.frozen (p := ⟨w.heap.size, 0, none⟩) (by assumption)).trans (by assumption : _ = false); try have q6 := (hb4.cell (p := ⟨w.heap.size, 0, none⟩) (by assumption)).trans (by assumption : _ = some (Value.slice A1 op.length c1)); have q7 := hb4.size) | (refine step_own rfl _ _ 63 rfl _ 41 i0 (.agg #[.int .i64 0, .int .i64 0, .string ⟨#[]⟩, .int .i64 0, .int .i64 0]) 5 48 Try.underlying63 HI.out HZ0.out HZ1.out HZ2.out rfl (by decide) _ _ _ rfl (by first | exact hown | exact hown.alloc _) _ 1 1 [.int .i64 rl, .int .i64 rh, .string rk, .int .i64 rn, .int .i64 rv] rfl rfl (by intro j u hj; match j, hj with | 0, hj | 1, hj | 2, hj | 3, hj | 4, hj => (simp at hj; subst hj; first | (simp [Addr.add]; done) | (refine (hb4.cell (by simp [Addr.add])).trans ?_; simp [Addr.add]))) (by intro u hu; simp at hu; rcases hu with rfl | rfl | rfl | rfl | rfl <;> rfl) (by unfold maxLen; omega) (by omega) (by have q7 := hb4.size; simp at q7 ⊢; omega) ?_; intro v5 W5 hown5 hgrow5 _; obtain ⟨A5, c5, rfl⟩ := own_slice hown5; have BG : Below w3.heap.size w3 W5 := (by first | exact bUndrew ((bel_alloc hb4 _).grown hgrow5 (by have q7 := hb4.size; simp at q7 ⊢; try omega) (fun q hq => by have := (hown.lt _ hq).1; simp at this ⊢; omega)) | exact ((belA (Below.refl _ _) (bUndrew hb4)).grown hgrow5 (by have q7 := hb4.size; simp at q7 ⊢; try omega) (fun q hq => by have := (hown.lt _ hq).1; simp at this ⊢; omega))); have q8 := (BG.cell (p := ⟨w.heap.size, 0, none⟩) hz0).trans s0; have q9 := (BG.frozen (p := ⟨w.heap.size, 0, none⟩) hz0).trans (sz 0)))
  all_goals
    have BG' := Lib.hid BG
    have P2 := (Below.heap_setCell W5 ⟨w.heap.size, 0, none⟩ (.slice A5 (op.length + 1) c5) (w.heap.size + 1 + 1) (by simp; try omega)).trans (heap_below N2.out BG)
    have P0 := blk_set (heap_below N0.out BG) 0 (.slice A5 (op.length + 1) c5)
    have BS := Lib.hid ((bThen B3.out BG).setCell (p := ⟨w.heap.size, 0, none⟩) (Nat.le_refl _) (.slice A5 (op.length + 1) c5))
    have hsz4 := hb4.size
    have HO5 := Lib.hid (own_base (own_set hown5 (p := ⟨w.heap.size, 0, none⟩) (by show w.heap.size < _; simp; try omega) (.slice A5 (op.length + 1) c5)) (by show w.heap.size + 1 + 1 + 1 ≤ _; simp; try omega))
    clear BG q8 q9 hown5 hgrow5 hb4 hown hsz4
    simp at P0
    generalize W5.setCell ⟨w.heap.size, 0, none⟩ (.slice A5 (op.length + 1) c5) = W6 at *
    have s0' := cellsAt P0 0
    have s1' := cellsAt P0 1
    have s2' := cellsAt P0 2
    have s3' := cellsAt P0 3
    have d0' := cellsAt P2 0
    have d1' := cellsAt P2 1
    have d2' := cellsAt P2 2
    have d3' := cellsAt P2 3
    have fz' := frozAt P2
    simp at s0' s1' s2' s3' d0' d1' d2' d3'
    go_wp2_with fail
    have E := set4 P2 (.slice A5 (op.length + 1) c5) (.slice A2 st.length c2) (.int .i64 last) (.slice A3 out.length c3)
    have BE := Lib.hid (bel4 BS.out (g := w.heap.size + 1 + 1) (by omega) (.slice A5 (op.length + 1) c5) (.slice A2 st.length c2) (.int .i64 last) (.slice A3 out.length c3))
    have HO6 := Lib.hid (own_set (own_set (own_set (own_set HO5.out (p := ⟨w.heap.size + 1 + 1, 0, none⟩) (by show w.heap.size + 1 + 1 < _; omega) (.slice A5 (op.length + 1) c5)) (p := ⟨w.heap.size + 1 + 1, 1, none⟩) (by show w.heap.size + 1 + 1 < _; omega) (.slice A2 st.length c2)) (p := ⟨w.heap.size + 1 + 1, 2, none⟩) (by show w.heap.size + 1 + 1 < _; omega) (.int .i64 last)) (p := ⟨w.heap.size + 1 + 1, 3, none⟩) (by show w.heap.size + 1 + 1 < _; omega) (.slice A3 out.length c3))
    clear d0' d1' d2' d3' fz' s0' s1' s2' s3' P0 P2
    generalize ((((W6.setCell ⟨w.heap.size + 1 + 1, 0, none⟩ (.slice A5 (op.length + 1) c5)).setCell ⟨w.heap.size + 1 + 1, 1, none⟩ (.slice A2 st.length c2)).setCell ⟨w.heap.size + 1 + 1, 2, none⟩ (.int .i64 last)).setCell ⟨w.heap.size + 1 + 1, 3, none⟩ (.slice A3 out.length c3)) = W7 at *
    have e0 := cellsAt E 0
    have e1 := cellsAt E 1
    have e2 := cellsAt E 2
    have e3 := cellsAt E 3
    simp at e0 e1 e2 e3
    refine bodyPost_ret (v := .tuple #[.agg #[.slice A5 (op.length + 1) c5, .slice A2 st.length c2, .int .i64 last, .slice A3 out.length c3], .int .i64 0]) (by simp [results, Try.results30, go_sem, e0, e1, e2, e3]) rfl ⟨_, rfl, ⟨_, _, _, rfl, ⟨Row.of_own Res.cs_len (n := op.length + 1) (by rw [List.flatMap_append]; exact HO6.out) (by simp), ?_, ?_⟩, ⟨R2.out.1.below BE.out, fun x hx => (R2.out.2.1 x hx).below BE.out, R2.out.2.2⟩, H4.out, R3.out.below BE.out⟩, BE.out, ⟨_, _, _, _, _, _, _, _, rfl, rfl, src_own HO6.out (by omega), .inl rfl, .inl rfl⟩⟩
    · intro x hx
      rcases List.mem_append.1 hx with h | h
      · exact hW1 x h
      · simp at h; subst h; exact hwf
    · simp; unfold maxLen; omega
end Go.Proofs.Ytenpgkkefielfaa
