/-
  WALKS of layer 20: the law ChunkWhole.
-/
import Derived.Test.YtdanfeldbdooeaaChunkP6
import Derived.Test.YtdanfeldbdooeaaChunkW18
import Derived.Test.YtdanfeldbdooeaaChunkW9
import Derived.Test.YtdanfeldbdooeaaChunkArgs
import Derived.Test.YtdanfeldbdooeaaMapB
import Derived.Deep.DeepCutAuto
set_option linter.unusedVariables false
set_option linter.unusedSimpArgs false
namespace Go.Proofs.Ytdanfeldbdooeaa
open Go.RowKit

theorem wfI_in {a : Int} (h0 : -9223372036854775808 ≤ a) (h1 : a ≤ 9223372036854775807) : (Lit.int .i64 a).wf = true := WalkArith.wf_i64 ⟨h0, h1⟩
def KsOk (S : ByteArray) (ks : List Int) : Prop := ∀ x ∈ ks, (Lit.int .i64 x).wf = true ∧ ∃ i : Nat, i < nOf S ∧ x = i
theorem KsOk.snoc {S : ByteArray} {ks : List Int} (h : KsOk S ks) {k : Nat} (hk : k < nOf S) (hk2 : k < 1000) : KsOk S (ks ++ [(k : Int)]) := by
  intro x hx
  rcases List.mem_append.1 hx with h1 | h1
  · exact h x h1
  · rw [List.mem_singleton] at h1
    subst h1
    exact ⟨wfI_in (by omega) (by omega), k, hk, rfl⟩
def TwRel (W0 : World) (g n : Int) (l : List Ck) (m : Nat) (p e : Value) (W : World) : Prop :=
  ∃ (pb : Nat) (A1 : Option Addr) (q1 : Nat), p = .pointer (some ⟨pb, 0, none⟩) ∧ e = .int .i64 0 ∧ W0.heap.size ≤ pb ∧ W.heap[pb]? = some (.cells #[.int .i64 g, .int .i64 n, .slice A1 m q1] 52 (0, 0)) ∧ Row Ck.cs 4 W (.slice A1 m q1) l ∧ Below W0.heap.size W0 W
theorem tw_a {wr w9 : World} {g n : Int} {l : List Ck} {m q1 : Nat} {A1 : Option Addr} (hr : Row Ck.cs 4 w9 (.slice A1 l.length q1) l) (hb : Below wr.drew.heap.size wr.drew w9) (hm : l.length = m) :
    TwRel wr g n l m (.pointer (some ⟨w9.heap.size, 0, none⟩)) (.int .i64 0) (w9.alloc (.cells #[.int .i64 g, .int .i64 n, .slice A1 l.length q1] 52)) := by
  subst hm
  have h : Below wr.heap.size wr w9 := ⟨hb.os, hb.tape, hb.output, hb.size, hb.block⟩
  exact ⟨_, A1, q1, rfl, rfl, h.size, heap_alloc_new w9 _, hr.alloc _, bel_alloc h _⟩
theorem tw_b {wr w9 : World} {g n : Int} {l : List Ck} {m q1 : Nat} {A1 : Option Addr} (nz : w9.heap[wr.heap.size]? = some (.cells #[.int .i64 0, .int .i64 0, .slice none 0 0] 52 (0, 0))) (hr : Row Ck.cs 4 w9 (.slice A1 l.length q1) l)
    (hb : Below ((wr.alloc (.cells #[.int .i64 0, .int .i64 0, .slice none 0 0] 52)).drew).heap.size ((wr.alloc (.cells #[.int .i64 0, .int .i64 0, .slice none 0 0] 52)).drew) w9) (hm : l.length = m) :
    TwRel wr g n l m (.pointer (some ⟨wr.heap.size, 0, none⟩)) (.int .i64 0) (((w9.setCell ⟨wr.heap.size, 0, none⟩ (.int .i64 g)).setCell ⟨wr.heap.size, 1, none⟩ (.int .i64 n)).setCell ⟨wr.heap.size, 2, none⟩ (.slice A1 l.length q1)) := by
  subst hm
  have h : Below (wr.alloc (.cells #[.int .i64 0, .int .i64 0, .slice none 0 0] 52)).heap.size (wr.alloc (.cells #[.int .i64 0, .int .i64 0, .slice none 0 0] 52)) w9 := ⟨hb.os, hb.tape, hb.output, hb.size, hb.block⟩
  exact ⟨_, A1, q1, rfl, rfl, Nat.le_refl _, setG3 nz _ _ _, keepG nz _ _ _ hr, belG3 (bThen (bel_alloc (Below.refl _ _) _) h) (Nat.le_refl _) _ _ _⟩
theorem tw_new {wr W' w9 : World} {o : Obj} (hb : Below W'.heap.size W' w9) (h : W'.heap[wr.heap.size]? = some o) : w9.heap[wr.heap.size]? = some o := heap_below h hb
theorem cameL_nil (g : Int) (s : ByteArray) : cameL g s [] = [] := by unfold cameL cameI; simp
def WhRel (W0 : World) (q b : Nat) (G : Int) (S : ByteArray) (N : Nat) (i : Value) (wr : World) : Prop :=
  ∃ (k : Nat) (ks : List Int) (A : Option Addr) (cp : Nat), k ≤ N ∧ i = .int .i64 k ∧ ks.length = k ∧ KsOk S ks ∧ MapB wr b ks ∧
    wr.heap[q]? = some (.cells #[.int .i64 G, .int .i64 (cameO S ks), .slice A (cameL G S ks).length cp] 52 (0, 0)) ∧ Row Ck.cs 4 wr (.slice A (cameL G S ks).length cp) (cameL G S ks) ∧ Below W0.heap.size W0 wr
set_option maxRecDepth 100000 in
set_option maxHeartbeats 4000000 in
theorem whole_walk (group : Int) (s : ByteArray) (ord : List Int) (ov : Value) (hg : wfL group) (hs : s.size ≤ 9223372036854775807) (w : World) (ho : Row iCs 1 w ov ord) (how : ∀ x ∈ ord, wfL x) (hol : ord.length ≤ 9223372036854775807) :
    Calls Try.prog 13 #[.int .i64 group, .string s, ov] w fun e w' => e = .returned (.bool true) ∧ Below w.heap.size w w' := by
  have hmm := @run_makeMap Try.prog
  obtain ⟨G, hG⟩ : ∃ G : Int, min (max group 0) 31 = G := ⟨_, rfl⟩
  have hG0 : 0 ≤ G := by omega
  have hG1 : G ≤ 31 := by omega
  have HGG := Lib.hid hG
  clear hG
  have RO := Lib.hid ho
  obtain ⟨Ao, co, rfl, -⟩ := ho
  obtain ⟨mo, hmo⟩ : ∃ m, ord.length = m := ⟨_, rfl⟩
  rw [hmo] at RO hol ⊢
  have HMO := Lib.hid hmo
  have HOW := Lib.hid how
  clear hmo how
  obtain ⟨N1, hN1⟩ : ∃ N : Nat, min (mo : Int) 100 = (N : Int) := ⟨min mo 100, by omega⟩
  have hN2 : N1 ≤ 100 := by omega
  have HN1 := Lib.hid hN1
  clear hN1
  go_enter Try.func13, Try.ntmps13
  go_upto_region 2 with fail
  rw [HGG.out]
  by_cases h3 : 3000 < s.size
  · have t3 : decide (3000 < (s.size : Int)) = true := by simp; omega
    have t3n : decide (3000 < s.size) = true := by simp; omega
    have h30 : (3000 : Int) ≤ (s.size : Int) := by omega
    go_upto_region 4 with fail
    obtain ⟨S, hSe⟩ : ∃ S, s.extract 0 3000 = S := ⟨_, rfl⟩
    rw [hSe]
    have hS : S.size ≤ 3000 := by rw [← hSe, ByteArray.size_extract]; omega
    clear hSe
    have hgb : (decide (0 ≤ G) && decide (G < 32)) = true := by simp; omega
    obtain ⟨nn, hnn⟩ : ∃ n, nOf S = n := ⟨_, rfl⟩
    have hn1 : 1 ≤ nn := by rw [← hnn]; unfold nOf; omega
    have hn12 : nn ≤ 12 := by rw [← hnn]; unfold nOf; omega
    have HNN := Lib.hid hnn
    clear hnn
    have hnz : ¬ ((nn : Int) = 0) := by omega
    have hnz2 : ((nn : Int) == 0) = false := by simp; omega
    have hnz3 : decide ((nn : Int) = 0) = false := by simp; omega
    go_wp2_with fail
    refine (split_yes G S _ hG0 (by omega) (by omega)).mono ?_
    rintro e ws ⟨vl, rfl, hrow, hb1⟩
    have RL := Lib.hid hrow
    obtain ⟨Al, cl, rfl, -⟩ := hrow
    rw [splitL_len, HNN.out] at RL ⊢
    have Z := Lib.hid (Row.below RO.out hb1)
    clear RO
    have RO := Z
    clear Z
    have BB1 := Lib.hid hb1
    clear hb1
    go_wp2_with fail
    refine (new_any G _ true hgb).mono ?_
    rintro e w2 ⟨rfl, hb3⟩
    have Z := Lib.hid (Row.below RO.out hb3)
    clear RO
    have RO := Z
    clear Z
    have Z := Lib.hid (Row.below RL.out hb3)
    clear RL
    have RL := Z
    clear Z
    have BB4 := Lib.hid (bThen BB1.out hb3)
    clear hb3
    rw [if_pos rfl, if_pos rfl]
    go_upto_region 6 with fail
    have RL0 := Lib.hid RL.out
    have RO0 := Lib.hid RO.out
    have B0 := Lib.hid BB4.out
    obtain ⟨W5, hW6⟩ : ∃ X, X = (w2).alloc (.cells #[.int .i64 G, .int .i64 0, .slice none 0 0] 52) := ⟨_, rfl⟩
    rw [← hW6]
    have hb7 : Below w2.heap.size w2 W5 := by rw [hW6]; exact bel_alloc (Below.refl _ _) _
    have HBW := Lib.hid hb7
    have Nq := Lib.hid (show W5.heap[w2.heap.size]? = some (.cells #[.int .i64 G, .int .i64 0, .slice none 0 0] 52 (0, 0)) by rw [hW6]; exact heap_at (w2) _ (w2.heap.size) (by simp))
    clear hW6
    have Z := Lib.hid (Row.below RO.out hb7)
    clear RO
    have RO := Z
    clear Z
    have Z := Lib.hid (Row.below RL.out hb7)
    clear RL
    have RL := Z
    clear Z
    have BB8 := Lib.hid (bThen BB4.out hb7)
    clear hb7
    have Blq := Nq
    clear Nq
    have zq := blk_lt Blq.out
    have xq0 := cellsAt Blq.out 0
    have xq1 := cellsAt Blq.out 1
    have xq2 := cellsAt Blq.out 2
    have fq := frozAt Blq.out
    simp at xq0 xq1 xq2
    go_wp2_with fail
    obtain ⟨W2, hW2⟩ : ∃ X, X = W5.alloc (.map #[] 0) := ⟨_, rfl⟩
    rw [← hW2]
    have MB := Lib.hid (show MapB W2 W5.heap.size [] by rw [hW2]; exact MapB.made _)
    have hbm : Below W5.heap.size W5 W2 := by rw [hW2]; exact bel_alloc (Below.refl _ _) _
    obtain ⟨b, hb⟩ : ∃ b, W5.heap.size = b := ⟨_, rfl⟩
    have hqb : w2.heap.size < b := by rw [← hb]; exact blk_lt Blq.out
    rw [hb] at MB ⊢
    clear hW2 hb
    clear zq fq xq0 xq1 xq2
    have BW0 := Lib.hid (show Below w2.heap.size w2 W2 by have h := HBW.out; exact bThen h hbm)
    have Z := Lib.hid (heap_below Blq.out hbm)
    clear Blq
    have Blq := Z
    clear Z
    have Z := Lib.hid (Row.below RO.out hbm)
    clear RO
    have RO := Z
    clear Z
    have Z := Lib.hid (Row.below RL.out hbm)
    clear RL
    have RL := Z
    clear Z
    have BB9 := Lib.hid (bThen BB8.out hbm)
    clear hbm
    rw [HN1.out]
    go_loopw [55] (fun i wr => WhRel w2 w2.heap.size b G S (N1 + nn) i wr) (fun i _ => (N1 + nn) - (intOf i).toNat)
    case atStart => exact ⟨0, [], none, 0, Nat.zero_le _, rfl, rfl, by intro x hx; simp at hx, MB.out, by rw [cameL_nil]; exact Blq.out, by rw [cameL_nil]; exact Row.none_, BW0.out⟩
    case round =>
      clear MB Blq BW0 RL RO HBW BB9
      obtain ⟨k, ks, A, cp, hk, rfl, hkl, hko, hmb, hbq, hrw, hbel⟩ := hrel
      obtain ⟨lg, hlg⟩ : ∃ n, (cameL G S ks).length = n := ⟨_, rfl⟩
      rw [hlg] at hbq hrw
      have HLG := Lib.hid hlg
      have hlg12 : lg ≤ nn := by rw [← hlg, ← HNN.out]; exact came_len G S ks
      clear hlg
      obtain ⟨oo, hoo⟩ : ∃ n, cameO S ks = n := ⟨_, rfl⟩
      rw [hoo] at hbq
      have HOO := Lib.hid hoo
      clear hoo
      have MB := Lib.hid hmb
      have Blq := Lib.hid hbq
      have BR := Lib.hid (bThen B0.out hbel)
      have RG := Lib.hid hrw
      have RL := Lib.hid (RL0.out.below hbel)
      have RO := Lib.hid (RO0.out.below hbel)
      have HKO := Lib.hid hko
      have BQ := Lib.hid hbel
      clear hmb hbq hrw hbel hko
      by_cases hlt : k < N1 + nn
      · go_upto_region 13 with fail
        go_cut [66] (fun c W => c = .bool (decide (k < N1)) ∧ W = wr)
        case first =>
          have hn1 := HN1.out
          by_cases hm1 : k < mo
          · have p1 : decide ((k : Int) < (mo : Int)) = true := by simp; omega
            have p1n : decide (k < mo) = true := by simp; omega
            by_cases hm2 : k < 100
            · have p2 : decide (k < 100) = true := by simp; omega
              have p3 : decide ((k : Int) < 100) = true := by simp; omega
              have q2 : decide (k < N1) = true := by simp; omega
              go_wp2_with fail
              go_meet
              rw [q2]
              exact ⟨rfl, rfl⟩
            · have p2 : decide (k < 100) = false := by simp; omega
              have p3 : decide ((k : Int) < 100) = false := by simp; omega
              have q2 : decide (k < N1) = false := by simp; omega
              go_wp2_with fail
              go_meet
              rw [q2]
              exact ⟨rfl, rfl⟩
          · have p1 : decide ((k : Int) < (mo : Int)) = false := by simp; omega
            have p1n : decide (k < mo) = false := by simp; omega
            have q2 : decide (k < N1) = false := by simp; omega
            go_wp2_with fail
            go_meet
            rw [q2]
            exact ⟨rfl, rfl⟩
        case rest =>
          obtain ⟨rfl, rfl⟩ := hcut
          go_upto_if 66 with fail
          go_cut [13] (fun v W => (∃ K : Nat, K < nn ∧ v = .int .i64 K) ∧ W = wc)
          case first =>
            have hn1 := HN1.out
            by_cases hm1 : k < N1
            · have p1 : decide (k < N1) = true := by simp; omega
              have p3 : decide ((k : Int) < (mo : Int)) = true := by simp; omega
              have p4 : decide (k < mo) = true := by simp; omega
              obtain ⟨x, hi⟩ : ∃ x, ord[k]? = some x := ⟨_, List.getElem?_eq_getElem (by rw [HMO.out]; omega)⟩
              obtain ⟨b1, o1, c3, e', hc', hb1, hX⟩ := RO.out.at_ hi
              injection e' with e1 e2 e3
              clear e2
              subst e1 e3
              have xo := hX 0 _ rfl
              simp only [Nat.add_zero, Nat.mul_one] at xo
              clear hX
              have hxw : wfL x := HOW.out x (List.mem_of_getElem? hi)
              unfold wfL at hxw
              have hr1 : x.tmod nn < nn := Int.tmod_lt_of_pos x (by omega)
              have hr2 : -(nn : Int) < x.tmod nn := Int.lt_tmod_of_pos x (by omega)
              have hww : wrap64 (x.tmod nn + nn) = x.tmod nn + nn := IntWalk.wrap64_in _ (by omega)
              obtain ⟨K, hK⟩ : ∃ K : Nat, (x.tmod nn + nn).tmod nn = (K : Int) := ⟨((x.tmod nn + nn).tmod nn).toNat, by have := Int.tmod_nonneg (nn : Int) (show 0 ≤ x.tmod nn + nn by omega); omega⟩
              have hKN : K < nn := by have := Int.tmod_lt_of_pos (x.tmod nn + nn) (show (0 : Int) < nn by omega); omega
              go_wp2_with fail
              go_meet
              exact ⟨⟨K, hKN, rfl⟩, rfl⟩
            · have p1 : decide (k < N1) = false := by simp; omega
              have hsb : (k : Int) - (min (mo : Int) 100) = ((k - N1 : Nat) : Int) := by rw [HN1.out]; omega
              have hKN : k - N1 < nn := by omega
              obtain ⟨K, hK⟩ : ∃ K, k - N1 = K := ⟨_, rfl⟩
              rw [hK] at hKN hsb
              have hwk : wrap64 ((k : Int) - (min (mo : Int) 100)) = (K : Int) := by rw [hsb]; exact IntWalk.wrap64_in _ (by omega)
              have hs : (k : Int) - (N1 : Int) = (K : Int) := by omega
              go_wp2_with fail
              go_meet
              exact ⟨⟨K, hKN, by first | rfl | rw [hs]⟩, rfl⟩
          case rest =>
            obtain ⟨⟨K, hKN, rfl⟩, rfl⟩ := hcut
            have hK0 : (0 : Int) ≤ (K : Int) := by omega
            have hKi : (K : Int) < (nn : Int) := by omega
            go_upto_region 16 with fail
            have zq := blk_lt Blq.out
            have xq0 := cellsAt Blq.out 0
            have xq1 := cellsAt Blq.out 1
            have xq2 := cellsAt Blq.out 2
            have fq := frozAt Blq.out
            simp at xq0 xq1 xq2
            obtain ⟨c, hc⟩ : ∃ c, ckOf G nn S K = c := ⟨_, rfl⟩
            have hL : (splitL G S)[K]? = some c := by unfold splitL; rw [HNN.out, List.getElem?_map, List.getElem?_range hKN, ← hc]; rfl
            have HTK := Lib.hid (show takeC G oo (cameL G S ks) c = ⟨G, nn, cameL G S (ks ++ [(K : Int)]), 0⟩ by have h := came_take (ks := ks) (k := K) hG0 (show G < 32 by omega) hS (by rw [HNN.out]; exact hKN); rw [HOO.out, cameO_snoc, HNN.out, hc] at h; exact h)
            have HCO := Lib.hid (show c.Ok by rw [← hc]; exact ⟨by unfold ckOf; simp; omega, by unfold ckOf; simp; omega⟩)
            obtain ⟨b', o', c', e', hc', hb', hX⟩ := RL.out.at_ hL
            injection e' with e1 e2 e3
            clear e2
            subst e1 e3
            have x0 := hX 0 _ rfl
            have x1 := hX 1 _ rfl
            have x2 := hX 2 _ rfl
            have x3 := hX 3 _ rfl
            clear hX hL hc
            obtain ⟨cg, cn, cc, cb⟩ := c
            simp only [Nat.add_zero] at x0 x1 x2 x3
            have hti : ((K : Int)).toNat = K := by simp
            obtain ⟨ks', hks'⟩ : ∃ l, ks ++ [(K : Int)] = l := ⟨_, rfl⟩
            rw [hks'] at HTK
            have HKS := Lib.hid hks'
            have HKO' := Lib.hid (show KsOk S ks' by rw [← hks']; exact HKO.out.snoc (by rw [HNN.out]; exact hKN) (by omega))
            have hkl' : ks'.length = k + 1 := by rw [← hks', List.length_append, hkl]; rfl
            have hne' : ks' ≠ [] := by rw [← hks']; simp
            clear hks'
            have hlg9 : (cameL G S ks).length ≤ 900000 := by rw [HLG.out]; omega
            have HT0 := Lib.hid (fun W' (hb : Below wc.heap.size wc W') => (show Calls Try.prog 29 #[.agg #[.int .i64 G, .int .i64 oo, .slice A lg cp], .agg #[.int .i64 cg, .int .i64 cn, .int .i64 cc, .string cb]] W' (TkTo ⟨G, nn, cameL G S ks', 0⟩ W') by have h := ctake_any G oo (cameL G S ks) ⟨cg, cn, cc, cb⟩ HCO.out (.slice A lg cp) W' (RG.out.below hb) hlg9 (came_ok G S ks hS); rw [HTK.out] at h; exact h))
            obtain ⟨l1, hl1⟩ : ∃ n, (cameL G S ks').length = n := ⟨_, rfl⟩
            have HL1 := Lib.hid hl1
            have hl112 : l1 ≤ nn := by rw [← hl1, ← HNN.out]; exact came_len G S ks'
            clear hl1 hlg9
            go_cut [14, 15] (fun p e W => TwRel wc G nn (cameL G S ks') l1 p e W)
            case first =>
              go_region_with (first | (go_at_call 29; refine (HT0.out _ ?_).mono ?_; (· (first | exact Below.refl _ _ | exact Below.drew (Below.refl _ _) | exact bel_alloc (Below.refl _ _) _ | exact Below.drew (bel_alloc (Below.refl _ _) _) | exact bel_alloc (Below.drew (Below.refl _ _)) _)); rintro e w9 ⟨v1, rfl, hr1, hb1⟩; have hr2 := hr1; obtain ⟨A1, q1, rfl, -⟩ := hr2; (try (have nz := tw_new (wr := wc) hb1 (by first | exact heap_alloc_new wc _ | exact heap_alloc_new (wc).drew _); have zz := blk_lt nz; have zc0 := cellsAt nz 0; have zc1 := cellsAt nz 1; have zc2 := cellsAt nz 2; have zf := frozAt nz; simp at zc0 zc1 zc2))))
              all_goals
                go_wp2_with fail
                go_meet
                first | exact tw_a hr1 hb1 HL1.out | exact tw_b nz hr1 hb1 HL1.out
            case rest =>
              clear zq fq xq0 xq1 xq2
              obtain ⟨pb, A1, q1, rfl, rfl, hpw, hpb, hr1, hb1⟩ := hcut
              have Q1 := Lib.hid hr1
              have Nt := Lib.hid hpb
              clear hr1 hpb x0 x1 x2 x3
              have Z := Lib.hid (heap_below Blq.out hb1)
              clear Blq
              have Blq := Z
              clear Z
              have Z := Lib.hid (Row.below RL.out hb1)
              clear RL
              have RL := Z
              clear Z
              have Z := Lib.hid (Row.below RO.out hb1)
              clear RO
              have RO := Z
              clear Z
              have Z := Lib.hid (Row.below RG.out hb1)
              clear RG
              have RG := Z
              clear Z
              have Z := Lib.hid (MapB.below MB.out hb1)
              clear MB
              have MB := Z
              clear Z
              have Z := Lib.hid (bThen BQ.out hb1)
              clear BQ
              have BQ := Z
              clear Z
              have BB10 := Lib.hid (bThen BR.out hb1)
              clear hb1
              have Blt := Nt
              clear Nt
              have zt := blk_lt Blt.out
              have xt0 := cellsAt Blt.out 0
              have xt1 := cellsAt Blt.out 1
              have xt2 := cellsAt Blt.out 2
              have ft := frozAt Blt.out
              simp at xt0 xt1 xt2
              go_wp2_with fail
              refine (cright_any G nn (cameL G S ks') (.slice A1 l1 q1) _ Q1.out (by rw [HL1.out]; omega) (came_ok G S ks' hS) true (by have h := came_right (ks := ks') hG0 (show G < 32 by omega) hS; rw [show cameO S ks' = nn by unfold cameO; rw [if_neg hne', HNN.out]] at h; exact h)).mono ?_
              rintro e w11 ⟨rfl, hb12⟩
              clear zt ft xt0 xt1 xt2
              have Z := Lib.hid (heap_below Blq.out hb12)
              clear Blq
              have Blq := Z
              clear Z
              have Z := Lib.hid (heap_below Blt.out hb12)
              clear Blt
              have Blt := Z
              clear Z
              have Z := Lib.hid (Row.below RL.out hb12)
              clear RL
              have RL := Z
              clear Z
              have Z := Lib.hid (Row.below RO.out hb12)
              clear RO
              have RO := Z
              clear Z
              have Z := Lib.hid (Row.below RG.out hb12)
              clear RG
              have RG := Z
              clear Z
              have Z := Lib.hid (MapB.below MB.out hb12)
              clear MB
              have MB := Z
              clear Z
              have Z := Lib.hid (bThen BQ.out hb12)
              clear BQ
              have BQ := Z
              clear Z
              have Z := Lib.hid (Row.below Q1.out hb12)
              clear Q1
              have Q1 := Z
              clear Z
              have BB13 := Lib.hid (bThen BB10.out hb12)
              clear hb12
              have zq := blk_lt Blq.out
              have xq0 := cellsAt Blq.out 0
              have xq1 := cellsAt Blq.out 1
              have xq2 := cellsAt Blq.out 2
              have fq := frozAt Blq.out
              simp at xq0 xq1 xq2
              have zt := blk_lt Blt.out
              have xt0 := cellsAt Blt.out 0
              have xt1 := cellsAt Blt.out 1
              have xt2 := cellsAt Blt.out 2
              have ft := frozAt Blt.out
              simp at xt0 xt1 xt2
              go_upto_region 20 with fail
              clear zq fq xq0 xq1 xq2 zt ft xt0 xt1 xt2
              have N1q := Lib.hid (setG3 Blq.out (.int .i64 G) (.int .i64 nn) (.slice A1 l1 q1))
              have N2q := Lib.hid (keepG Blq.out (.int .i64 G) (.int .i64 nn) (.slice A1 l1 q1) Q1.out)
              have N3q := Lib.hid (keepG Blq.out (.int .i64 G) (.int .i64 nn) (.slice A1 l1 q1) RL.out)
              have N4q := Lib.hid (RO0.out.below (belG3 (BQ.out) (g := w2.heap.size) (Nat.le_refl _) (.int .i64 G) (.int .i64 nn) (.slice A1 l1 q1)))
              have N5q := Lib.hid (belG3 BQ.out (g := w2.heap.size) (Nat.le_refl _) (.int .i64 G) (.int .i64 nn) (.slice A1 l1 q1))
              have N6q := Lib.hid (belG3 BB13.out (g := w2.heap.size) B0.out.size (.int .i64 G) (.int .i64 nn) (.slice A1 l1 q1))
              have N7q := Lib.hid (((MB.out.set (p := ⟨w2.heap.size, 0, none⟩) (Nat.ne_of_gt hqb) (.int .i64 G)).set (p := ⟨w2.heap.size, 1, none⟩) (Nat.ne_of_gt hqb) (.int .i64 nn)).set (p := ⟨w2.heap.size, 2, none⟩) (Nat.ne_of_gt hqb) (.slice A1 l1 q1))
              clear Blq Q1 RL RO BQ RG MB Blt BB13
              generalize (((w11).setCell ⟨w2.heap.size, 0, none⟩ (.int .i64 G)).setCell ⟨w2.heap.size, 1, none⟩ (.int .i64 nn)).setCell ⟨w2.heap.size, 2, none⟩ (.slice A1 l1 q1) = XX at *
              have Blq := N1q
              have Q1 := N2q
              have RL := N3q
              have RO := N4q
              have BQ := N5q
              have BX := N6q
              have MB := N7q
              clear N1q N2q N3q N4q N5q N6q N7q
              have hkw : (Lit.int .i64 (K : Int)).wf = true := wfI_in (by omega) (by omega)
              go_upto_region 21 with (at_mapUpdate; refine wpList_mapB rfl _ _ _ rfl _ _ rfl MB.out (by rw [hkl]; unfold maxLen; omega) _ rfl rfl hkw ?_; intro w9 hm9 hg9)
              have M9 := Lib.hid (show MapB w9 b ks' by have h := hm9; rw [HKS.out] at h; exact h)
              have S9 := Lib.hid (heap_keepM Blq.out MB.out (by intro es c h; cases h) hg9)
              have P9 := Lib.hid (Q1.out.keepM MB.out hg9)
              have hbw := B0.out.size
              have B9 := Lib.hid (BX.out.grown hg9 (BX.out.size) (fun q hq => by injection hq with hq; omega))
              have BQ9 := Lib.hid (BQ.out.grown hg9 (BQ.out.size) (fun q hq => by injection hq with hq; omega))
              have RL9 := Lib.hid (RL0.out.below BQ9.out)
              have RO9 := Lib.hid (RO0.out.below BQ9.out)
              clear hm9 hg9 hbw Blq MB Q1 BX BQ RL RO
              have Blq := S9
              have MB := M9
              have Q1 := P9
              have BX := B9
              have BQ := BQ9
              have RL := RL9
              have RO := RO9
              clear S9 M9 P9 B9 BQ9 RL9 RO9
              have zq := blk_lt Blq.out
              have xq0 := cellsAt Blq.out 0
              have xq1 := cellsAt Blq.out 1
              have xq2 := cellsAt Blq.out 2
              have fq := frozAt Blq.out
              simp at xq0 xq1 xq2
              go_wp2_with fail
              have HBY := came_bytes (ks := ks') hG0 (show G < 32 by omega) hS hne'
              have hoo' : cameO S ks' = (nn : Int) := by unfold cameO; rw [if_neg hne', HNN.out]
              rw [hoo', HL1.out, HNN.out] at HBY
              have HMS := came_miss (ks := ks') hG0 (show G < 32 by omega) hS hne'
              rw [hoo', HL1.out, HNN.out] at HMS
              have HSZ := came_size' (g := G) (ks := ks') HKO'.out
              rw [HL1.out] at HSZ
              have HRI := came_right (ks := ks') hG0 (show G < 32 by omega) hS
              rw [hoo'] at HRI
              have HOO' := Lib.hid hoo'
              have HSZ' := Lib.hid HSZ
              have HRI' := Lib.hid HRI
              have HMS' := Lib.hid HMS
              clear hoo' HSZ HRI HMS
              have HB := bytes_any G nn (cameL G S ks') (.slice A1 l1 q1) w9 Q1.out (by rw [HL1.out]; omega) (came_ok G S ks' hS)
              rw [HBY] at HB
              refine HB.mono ?_
              rintro e w14 ⟨rfl, hb15⟩
              clear HB HBY
              clear zq fq xq0 xq1 xq2
              have Z := Lib.hid (heap_below Blq.out hb15)
              clear Blq
              have Blq := Z
              clear Z
              have Z := Lib.hid (Row.below RL.out hb15)
              clear RL
              have RL := Z
              clear Z
              have Z := Lib.hid (Row.below RO.out hb15)
              clear RO
              have RO := Z
              clear Z
              have Z := Lib.hid (Row.below Q1.out hb15)
              clear Q1
              have Q1 := Z
              clear Z
              have Z := Lib.hid (MapB.below MB.out hb15)
              clear MB
              have MB := Z
              clear Z
              have Z := Lib.hid (bThen BQ.out hb15)
              clear BQ
              have BQ := Z
              clear Z
              have BB16 := Lib.hid (bThen BX.out hb15)
              clear hb15
              have zq := blk_lt Blq.out
              have xq0 := cellsAt Blq.out 0
              have xq1 := cellsAt Blq.out 1
              have xq2 := cellsAt Blq.out 2
              have fq := frozAt Blq.out
              simp at xq0 xq1 xq2
              by_cases hfull : l1 = nn
              · obtain rfl : l1 = nn := hfull
                rw [if_pos rfl]
                simp only
                have hSS : (S.toList == S.toList) = true := by simp
                go_wp2_with fail
                have HMI := missing_any G l1 (cameL G S ks') (.slice A1 l1 q1) w14 Q1.out (by rw [HL1.out]; omega) (came_ok G S ks' hS)
                rw [if_pos HRI'.out] at HMI
                refine HMI.mono ?_
                rintro e w17 ⟨v5, rfl, hr5, hb18⟩
                obtain ⟨A5, q5, rfl, -⟩ := hr5
                clear HMI
                clear zq fq xq0 xq1 xq2
                have Z := Lib.hid (heap_below Blq.out hb18)
                clear Blq
                have Blq := Z
                clear Z
                have Z := Lib.hid (Row.below RL.out hb18)
                clear RL
                have RL := Z
                clear Z
                have Z := Lib.hid (Row.below RO.out hb18)
                clear RO
                have RO := Z
                clear Z
                have Z := Lib.hid (Row.below Q1.out hb18)
                clear Q1
                have Q1 := Z
                clear Z
                have Z := Lib.hid (MapB.below MB.out hb18)
                clear MB
                have MB := Z
                clear Z
                have Z := Lib.hid (bThen BQ.out hb18)
                clear BQ
                have BQ := Z
                clear Z
                have BB19 := Lib.hid (bThen BB16.out hb18)
                clear hb18
                obtain ⟨p, hp⟩ : ∃ p, (missK (cameL G S ks') ((l1 : Int)).toNat).length = p := ⟨_, rfl⟩
                have hpl : p + l1 = l1 := by rw [← hp]; exact HMS'.out
                rw [hp]
                clear hp
                have hpi : (p : Int) = (l1 : Int) - (l1 : Int) := by omega
                have hpj : ((p : Int) == (l1 : Int) - (l1 : Int)) = true := by simp; omega
                obtain rfl : p = 0 := by omega
                have hln : ∀ ty, (Builtin.len_ #[54] ty #[.map (some b)]).run Try.prog w17 = .ok (.int .i64 l1) w17 := fun ty => by have h := MB.out.len ty; rw [HSZ'.out] at h; exact h
                have zq := blk_lt Blq.out
                have xq0 := cellsAt Blq.out 0
                have xq1 := cellsAt Blq.out 1
                have xq2 := cellsAt Blq.out 2
                have fq := frozAt Blq.out
                simp at xq0 xq1 xq2
                go_wp2_with fail
                refine ⟨⟨k + 1, ks', A1, q1, by omega, by go_num, hkl', HKO'.out, MB.out, ?_, ?_, BQ.out⟩, ?_⟩
                · rw [HOO'.out, HL1.out]; exact Blq.out
                · rw [HL1.out]; exact Q1.out
                · simp [intOf]; omega
              · rw [if_neg hfull]
                simp only
                have hSS : (S.toList == S.toList) = true := by simp
                have hl3 : ((l1 : Int) == (nn : Int)) = false := by simp; omega
                have hl4 : (l1 == nn) = false := by simp; omega
                go_wp2_with fail
                have HMI := missing_any G nn (cameL G S ks') (.slice A1 l1 q1) w14 Q1.out (by rw [HL1.out]; omega) (came_ok G S ks' hS)
                rw [if_pos HRI'.out] at HMI
                refine HMI.mono ?_
                rintro e w17 ⟨v5, rfl, hr5, hb18⟩
                obtain ⟨A5, q5, rfl, -⟩ := hr5
                clear HMI
                clear zq fq xq0 xq1 xq2
                have Z := Lib.hid (heap_below Blq.out hb18)
                clear Blq
                have Blq := Z
                clear Z
                have Z := Lib.hid (Row.below RL.out hb18)
                clear RL
                have RL := Z
                clear Z
                have Z := Lib.hid (Row.below RO.out hb18)
                clear RO
                have RO := Z
                clear Z
                have Z := Lib.hid (Row.below Q1.out hb18)
                clear Q1
                have Q1 := Z
                clear Z
                have Z := Lib.hid (MapB.below MB.out hb18)
                clear MB
                have MB := Z
                clear Z
                have Z := Lib.hid (bThen BQ.out hb18)
                clear BQ
                have BQ := Z
                clear Z
                have BB19 := Lib.hid (bThen BB16.out hb18)
                clear hb18
                obtain ⟨p, hp⟩ : ∃ p, (missK (cameL G S ks') ((nn : Int)).toNat).length = p := ⟨_, rfl⟩
                have hpl : p + l1 = nn := by rw [← hp]; exact HMS'.out
                rw [hp]
                clear hp
                have hpi : (p : Int) = (nn : Int) - (l1 : Int) := by omega
                have hpj : ((p : Int) == (nn : Int) - (l1 : Int)) = true := by simp; omega
                have hln : ∀ ty, (Builtin.len_ #[54] ty #[.map (some b)]).run Try.prog w17 = .ok (.int .i64 l1) w17 := fun ty => by have h := MB.out.len ty; rw [HSZ'.out] at h; exact h
                have zq := blk_lt Blq.out
                have xq0 := cellsAt Blq.out 0
                have xq1 := cellsAt Blq.out 1
                have xq2 := cellsAt Blq.out 2
                have fq := frozAt Blq.out
                simp at xq0 xq1 xq2
                go_wp2_with fail
                refine ⟨⟨k + 1, ks', A1, q1, by omega, by go_num, hkl', HKO'.out, MB.out, ?_, ?_, BQ.out⟩, ?_⟩
                · rw [HOO'.out, HL1.out]; exact Blq.out
                · rw [HL1.out]; exact Q1.out
                · simp [intOf]; omega
      · obtain rfl : k = N1 + nn := by omega
        go_wp2_with fail
        refine (calive_any _).mono ?_
        rintro e w10 ⟨rfl, hb11⟩
        have Z := Lib.hid (heap_below Blq.out hb11)
        clear Blq
        have Blq := Z
        clear Z
        have Z := Lib.hid (Row.below RL.out hb11)
        clear RL
        have RL := Z
        clear Z
        have Z := Lib.hid (Row.below RO.out hb11)
        clear RO
        have RO := Z
        clear Z
        have Z := Lib.hid (Row.below RG.out hb11)
        clear RG
        have RG := Z
        clear Z
        have Z := Lib.hid (MapB.below MB.out hb11)
        clear MB
        have MB := Z
        clear Z
        have Z := Lib.hid (bThen BQ.out hb11)
        clear BQ
        have BQ := Z
        clear Z
        have BB12 := Lib.hid (bThen BR.out hb11)
        clear hb11
        go_wp2_with fail
        go_ret
        exact ⟨rfl, BB12.out⟩
  · have t3 : decide (3000 < (s.size : Int)) = false := by simp; omega
    obtain ⟨S, rfl⟩ : ∃ S, S = s := ⟨_, rfl⟩
    have hS : S.size ≤ 3000 := by omega
    have hgb : (decide (0 ≤ G) && decide (G < 32)) = true := by simp; omega
    obtain ⟨nn, hnn⟩ : ∃ n, nOf S = n := ⟨_, rfl⟩
    have hn1 : 1 ≤ nn := by rw [← hnn]; unfold nOf; omega
    have hn12 : nn ≤ 12 := by rw [← hnn]; unfold nOf; omega
    have HNN := Lib.hid hnn
    clear hnn
    have hnz : ¬ ((nn : Int) = 0) := by omega
    have hnz2 : ((nn : Int) == 0) = false := by simp; omega
    have hnz3 : decide ((nn : Int) = 0) = false := by simp; omega
    go_wp2_with fail
    refine (split_yes G S _ hG0 (by omega) (by omega)).mono ?_
    rintro e ws ⟨vl, rfl, hrow, hb1⟩
    have RL := Lib.hid hrow
    obtain ⟨Al, cl, rfl, -⟩ := hrow
    rw [splitL_len, HNN.out] at RL ⊢
    have Z := Lib.hid (Row.below RO.out hb1)
    clear RO
    have RO := Z
    clear Z
    have BB1 := Lib.hid hb1
    clear hb1
    go_wp2_with fail
    refine (new_any G _ true hgb).mono ?_
    rintro e w2 ⟨rfl, hb3⟩
    have Z := Lib.hid (Row.below RO.out hb3)
    clear RO
    have RO := Z
    clear Z
    have Z := Lib.hid (Row.below RL.out hb3)
    clear RL
    have RL := Z
    clear Z
    have BB4 := Lib.hid (bThen BB1.out hb3)
    clear hb3
    rw [if_pos rfl, if_pos rfl]
    go_upto_region 6 with fail
    have RL0 := Lib.hid RL.out
    have RO0 := Lib.hid RO.out
    have B0 := Lib.hid BB4.out
    obtain ⟨W5, hW6⟩ : ∃ X, X = (w2).alloc (.cells #[.int .i64 G, .int .i64 0, .slice none 0 0] 52) := ⟨_, rfl⟩
    rw [← hW6]
    have hb7 : Below w2.heap.size w2 W5 := by rw [hW6]; exact bel_alloc (Below.refl _ _) _
    have HBW := Lib.hid hb7
    have Nq := Lib.hid (show W5.heap[w2.heap.size]? = some (.cells #[.int .i64 G, .int .i64 0, .slice none 0 0] 52 (0, 0)) by rw [hW6]; exact heap_at (w2) _ (w2.heap.size) (by simp))
    clear hW6
    have Z := Lib.hid (Row.below RO.out hb7)
    clear RO
    have RO := Z
    clear Z
    have Z := Lib.hid (Row.below RL.out hb7)
    clear RL
    have RL := Z
    clear Z
    have BB8 := Lib.hid (bThen BB4.out hb7)
    clear hb7
    have Blq := Nq
    clear Nq
    have zq := blk_lt Blq.out
    have xq0 := cellsAt Blq.out 0
    have xq1 := cellsAt Blq.out 1
    have xq2 := cellsAt Blq.out 2
    have fq := frozAt Blq.out
    simp at xq0 xq1 xq2
    go_wp2_with fail
    obtain ⟨W2, hW2⟩ : ∃ X, X = W5.alloc (.map #[] 0) := ⟨_, rfl⟩
    rw [← hW2]
    have MB := Lib.hid (show MapB W2 W5.heap.size [] by rw [hW2]; exact MapB.made _)
    have hbm : Below W5.heap.size W5 W2 := by rw [hW2]; exact bel_alloc (Below.refl _ _) _
    obtain ⟨b, hb⟩ : ∃ b, W5.heap.size = b := ⟨_, rfl⟩
    have hqb : w2.heap.size < b := by rw [← hb]; exact blk_lt Blq.out
    rw [hb] at MB ⊢
    clear hW2 hb
    clear zq fq xq0 xq1 xq2
    have BW0 := Lib.hid (show Below w2.heap.size w2 W2 by have h := HBW.out; exact bThen h hbm)
    have Z := Lib.hid (heap_below Blq.out hbm)
    clear Blq
    have Blq := Z
    clear Z
    have Z := Lib.hid (Row.below RO.out hbm)
    clear RO
    have RO := Z
    clear Z
    have Z := Lib.hid (Row.below RL.out hbm)
    clear RL
    have RL := Z
    clear Z
    have BB9 := Lib.hid (bThen BB8.out hbm)
    clear hbm
    rw [HN1.out]
    go_loopw [55] (fun i wr => WhRel w2 w2.heap.size b G S (N1 + nn) i wr) (fun i _ => (N1 + nn) - (intOf i).toNat)
    case atStart => exact ⟨0, [], none, 0, Nat.zero_le _, rfl, rfl, by intro x hx; simp at hx, MB.out, by rw [cameL_nil]; exact Blq.out, by rw [cameL_nil]; exact Row.none_, BW0.out⟩
    case round =>
      clear MB Blq BW0 RL RO HBW BB9
      obtain ⟨k, ks, A, cp, hk, rfl, hkl, hko, hmb, hbq, hrw, hbel⟩ := hrel
      obtain ⟨lg, hlg⟩ : ∃ n, (cameL G S ks).length = n := ⟨_, rfl⟩
      rw [hlg] at hbq hrw
      have HLG := Lib.hid hlg
      have hlg12 : lg ≤ nn := by rw [← hlg, ← HNN.out]; exact came_len G S ks
      clear hlg
      obtain ⟨oo, hoo⟩ : ∃ n, cameO S ks = n := ⟨_, rfl⟩
      rw [hoo] at hbq
      have HOO := Lib.hid hoo
      clear hoo
      have MB := Lib.hid hmb
      have Blq := Lib.hid hbq
      have BR := Lib.hid (bThen B0.out hbel)
      have RG := Lib.hid hrw
      have RL := Lib.hid (RL0.out.below hbel)
      have RO := Lib.hid (RO0.out.below hbel)
      have HKO := Lib.hid hko
      have BQ := Lib.hid hbel
      clear hmb hbq hrw hbel hko
      by_cases hlt : k < N1 + nn
      · go_upto_region 13 with fail
        go_cut [66] (fun c W => c = .bool (decide (k < N1)) ∧ W = wr)
        case first =>
          have hn1 := HN1.out
          by_cases hm1 : k < mo
          · have p1 : decide ((k : Int) < (mo : Int)) = true := by simp; omega
            have p1n : decide (k < mo) = true := by simp; omega
            by_cases hm2 : k < 100
            · have p2 : decide (k < 100) = true := by simp; omega
              have p3 : decide ((k : Int) < 100) = true := by simp; omega
              have q2 : decide (k < N1) = true := by simp; omega
              go_wp2_with fail
              go_meet
              rw [q2]
              exact ⟨rfl, rfl⟩
            · have p2 : decide (k < 100) = false := by simp; omega
              have p3 : decide ((k : Int) < 100) = false := by simp; omega
              have q2 : decide (k < N1) = false := by simp; omega
              go_wp2_with fail
              go_meet
              rw [q2]
              exact ⟨rfl, rfl⟩
          · have p1 : decide ((k : Int) < (mo : Int)) = false := by simp; omega
            have p1n : decide (k < mo) = false := by simp; omega
            have q2 : decide (k < N1) = false := by simp; omega
            go_wp2_with fail
            go_meet
            rw [q2]
            exact ⟨rfl, rfl⟩
        case rest =>
          obtain ⟨rfl, rfl⟩ := hcut
          go_upto_if 66 with fail
          go_cut [13] (fun v W => (∃ K : Nat, K < nn ∧ v = .int .i64 K) ∧ W = wc)
          case first =>
            have hn1 := HN1.out
            by_cases hm1 : k < N1
            · have p1 : decide (k < N1) = true := by simp; omega
              have p3 : decide ((k : Int) < (mo : Int)) = true := by simp; omega
              have p4 : decide (k < mo) = true := by simp; omega
              obtain ⟨x, hi⟩ : ∃ x, ord[k]? = some x := ⟨_, List.getElem?_eq_getElem (by rw [HMO.out]; omega)⟩
              obtain ⟨b1, o1, c3, e', hc', hb1, hX⟩ := RO.out.at_ hi
              injection e' with e1 e2 e3
              clear e2
              subst e1 e3
              have xo := hX 0 _ rfl
              simp only [Nat.add_zero, Nat.mul_one] at xo
              clear hX
              have hxw : wfL x := HOW.out x (List.mem_of_getElem? hi)
              unfold wfL at hxw
              have hr1 : x.tmod nn < nn := Int.tmod_lt_of_pos x (by omega)
              have hr2 : -(nn : Int) < x.tmod nn := Int.lt_tmod_of_pos x (by omega)
              have hww : wrap64 (x.tmod nn + nn) = x.tmod nn + nn := IntWalk.wrap64_in _ (by omega)
              obtain ⟨K, hK⟩ : ∃ K : Nat, (x.tmod nn + nn).tmod nn = (K : Int) := ⟨((x.tmod nn + nn).tmod nn).toNat, by have := Int.tmod_nonneg (nn : Int) (show 0 ≤ x.tmod nn + nn by omega); omega⟩
              have hKN : K < nn := by have := Int.tmod_lt_of_pos (x.tmod nn + nn) (show (0 : Int) < nn by omega); omega
              go_wp2_with fail
              go_meet
              exact ⟨⟨K, hKN, rfl⟩, rfl⟩
            · have p1 : decide (k < N1) = false := by simp; omega
              have hsb : (k : Int) - (min (mo : Int) 100) = ((k - N1 : Nat) : Int) := by rw [HN1.out]; omega
              have hKN : k - N1 < nn := by omega
              obtain ⟨K, hK⟩ : ∃ K, k - N1 = K := ⟨_, rfl⟩
              rw [hK] at hKN hsb
              have hwk : wrap64 ((k : Int) - (min (mo : Int) 100)) = (K : Int) := by rw [hsb]; exact IntWalk.wrap64_in _ (by omega)
              have hs : (k : Int) - (N1 : Int) = (K : Int) := by omega
              go_wp2_with fail
              go_meet
              exact ⟨⟨K, hKN, by first | rfl | rw [hs]⟩, rfl⟩
          case rest =>
            obtain ⟨⟨K, hKN, rfl⟩, rfl⟩ := hcut
            have hK0 : (0 : Int) ≤ (K : Int) := by omega
            have hKi : (K : Int) < (nn : Int) := by omega
            go_upto_region 16 with fail
            have zq := blk_lt Blq.out
            have xq0 := cellsAt Blq.out 0
            have xq1 := cellsAt Blq.out 1
            have xq2 := cellsAt Blq.out 2
            have fq := frozAt Blq.out
            simp at xq0 xq1 xq2
            obtain ⟨c, hc⟩ : ∃ c, ckOf G nn S K = c := ⟨_, rfl⟩
            have hL : (splitL G S)[K]? = some c := by unfold splitL; rw [HNN.out, List.getElem?_map, List.getElem?_range hKN, ← hc]; rfl
            have HTK := Lib.hid (show takeC G oo (cameL G S ks) c = ⟨G, nn, cameL G S (ks ++ [(K : Int)]), 0⟩ by have h := came_take (ks := ks) (k := K) hG0 (show G < 32 by omega) hS (by rw [HNN.out]; exact hKN); rw [HOO.out, cameO_snoc, HNN.out, hc] at h; exact h)
            have HCO := Lib.hid (show c.Ok by rw [← hc]; exact ⟨by unfold ckOf; simp; omega, by unfold ckOf; simp; omega⟩)
            obtain ⟨b', o', c', e', hc', hb', hX⟩ := RL.out.at_ hL
            injection e' with e1 e2 e3
            clear e2
            subst e1 e3
            have x0 := hX 0 _ rfl
            have x1 := hX 1 _ rfl
            have x2 := hX 2 _ rfl
            have x3 := hX 3 _ rfl
            clear hX hL hc
            obtain ⟨cg, cn, cc, cb⟩ := c
            simp only [Nat.add_zero] at x0 x1 x2 x3
            have hti : ((K : Int)).toNat = K := by simp
            obtain ⟨ks', hks'⟩ : ∃ l, ks ++ [(K : Int)] = l := ⟨_, rfl⟩
            rw [hks'] at HTK
            have HKS := Lib.hid hks'
            have HKO' := Lib.hid (show KsOk S ks' by rw [← hks']; exact HKO.out.snoc (by rw [HNN.out]; exact hKN) (by omega))
            have hkl' : ks'.length = k + 1 := by rw [← hks', List.length_append, hkl]; rfl
            have hne' : ks' ≠ [] := by rw [← hks']; simp
            clear hks'
            have hlg9 : (cameL G S ks).length ≤ 900000 := by rw [HLG.out]; omega
            have HT0 := Lib.hid (fun W' (hb : Below wc.heap.size wc W') => (show Calls Try.prog 29 #[.agg #[.int .i64 G, .int .i64 oo, .slice A lg cp], .agg #[.int .i64 cg, .int .i64 cn, .int .i64 cc, .string cb]] W' (TkTo ⟨G, nn, cameL G S ks', 0⟩ W') by have h := ctake_any G oo (cameL G S ks) ⟨cg, cn, cc, cb⟩ HCO.out (.slice A lg cp) W' (RG.out.below hb) hlg9 (came_ok G S ks hS); rw [HTK.out] at h; exact h))
            obtain ⟨l1, hl1⟩ : ∃ n, (cameL G S ks').length = n := ⟨_, rfl⟩
            have HL1 := Lib.hid hl1
            have hl112 : l1 ≤ nn := by rw [← hl1, ← HNN.out]; exact came_len G S ks'
            clear hl1 hlg9
            go_cut [14, 15] (fun p e W => TwRel wc G nn (cameL G S ks') l1 p e W)
            case first =>
              go_region_with (first | (go_at_call 29; refine (HT0.out _ ?_).mono ?_; (· (first | exact Below.refl _ _ | exact Below.drew (Below.refl _ _) | exact bel_alloc (Below.refl _ _) _ | exact Below.drew (bel_alloc (Below.refl _ _) _) | exact bel_alloc (Below.drew (Below.refl _ _)) _)); rintro e w9 ⟨v1, rfl, hr1, hb1⟩; have hr2 := hr1; obtain ⟨A1, q1, rfl, -⟩ := hr2; (try (have nz := tw_new (wr := wc) hb1 (by first | exact heap_alloc_new wc _ | exact heap_alloc_new (wc).drew _); have zz := blk_lt nz; have zc0 := cellsAt nz 0; have zc1 := cellsAt nz 1; have zc2 := cellsAt nz 2; have zf := frozAt nz; simp at zc0 zc1 zc2))))
              all_goals
                go_wp2_with fail
                go_meet
                first | exact tw_a hr1 hb1 HL1.out | exact tw_b nz hr1 hb1 HL1.out
            case rest =>
              clear zq fq xq0 xq1 xq2
              obtain ⟨pb, A1, q1, rfl, rfl, hpw, hpb, hr1, hb1⟩ := hcut
              have Q1 := Lib.hid hr1
              have Nt := Lib.hid hpb
              clear hr1 hpb x0 x1 x2 x3
              have Z := Lib.hid (heap_below Blq.out hb1)
              clear Blq
              have Blq := Z
              clear Z
              have Z := Lib.hid (Row.below RL.out hb1)
              clear RL
              have RL := Z
              clear Z
              have Z := Lib.hid (Row.below RO.out hb1)
              clear RO
              have RO := Z
              clear Z
              have Z := Lib.hid (Row.below RG.out hb1)
              clear RG
              have RG := Z
              clear Z
              have Z := Lib.hid (MapB.below MB.out hb1)
              clear MB
              have MB := Z
              clear Z
              have Z := Lib.hid (bThen BQ.out hb1)
              clear BQ
              have BQ := Z
              clear Z
              have BB10 := Lib.hid (bThen BR.out hb1)
              clear hb1
              have Blt := Nt
              clear Nt
              have zt := blk_lt Blt.out
              have xt0 := cellsAt Blt.out 0
              have xt1 := cellsAt Blt.out 1
              have xt2 := cellsAt Blt.out 2
              have ft := frozAt Blt.out
              simp at xt0 xt1 xt2
              go_wp2_with fail
              refine (cright_any G nn (cameL G S ks') (.slice A1 l1 q1) _ Q1.out (by rw [HL1.out]; omega) (came_ok G S ks' hS) true (by have h := came_right (ks := ks') hG0 (show G < 32 by omega) hS; rw [show cameO S ks' = nn by unfold cameO; rw [if_neg hne', HNN.out]] at h; exact h)).mono ?_
              rintro e w11 ⟨rfl, hb12⟩
              clear zt ft xt0 xt1 xt2
              have Z := Lib.hid (heap_below Blq.out hb12)
              clear Blq
              have Blq := Z
              clear Z
              have Z := Lib.hid (heap_below Blt.out hb12)
              clear Blt
              have Blt := Z
              clear Z
              have Z := Lib.hid (Row.below RL.out hb12)
              clear RL
              have RL := Z
              clear Z
              have Z := Lib.hid (Row.below RO.out hb12)
              clear RO
              have RO := Z
              clear Z
              have Z := Lib.hid (Row.below RG.out hb12)
              clear RG
              have RG := Z
              clear Z
              have Z := Lib.hid (MapB.below MB.out hb12)
              clear MB
              have MB := Z
              clear Z
              have Z := Lib.hid (bThen BQ.out hb12)
              clear BQ
              have BQ := Z
              clear Z
              have Z := Lib.hid (Row.below Q1.out hb12)
              clear Q1
              have Q1 := Z
              clear Z
              have BB13 := Lib.hid (bThen BB10.out hb12)
              clear hb12
              have zq := blk_lt Blq.out
              have xq0 := cellsAt Blq.out 0
              have xq1 := cellsAt Blq.out 1
              have xq2 := cellsAt Blq.out 2
              have fq := frozAt Blq.out
              simp at xq0 xq1 xq2
              have zt := blk_lt Blt.out
              have xt0 := cellsAt Blt.out 0
              have xt1 := cellsAt Blt.out 1
              have xt2 := cellsAt Blt.out 2
              have ft := frozAt Blt.out
              simp at xt0 xt1 xt2
              go_upto_region 20 with fail
              clear zq fq xq0 xq1 xq2 zt ft xt0 xt1 xt2
              have N1q := Lib.hid (setG3 Blq.out (.int .i64 G) (.int .i64 nn) (.slice A1 l1 q1))
              have N2q := Lib.hid (keepG Blq.out (.int .i64 G) (.int .i64 nn) (.slice A1 l1 q1) Q1.out)
              have N3q := Lib.hid (keepG Blq.out (.int .i64 G) (.int .i64 nn) (.slice A1 l1 q1) RL.out)
              have N4q := Lib.hid (RO0.out.below (belG3 (BQ.out) (g := w2.heap.size) (Nat.le_refl _) (.int .i64 G) (.int .i64 nn) (.slice A1 l1 q1)))
              have N5q := Lib.hid (belG3 BQ.out (g := w2.heap.size) (Nat.le_refl _) (.int .i64 G) (.int .i64 nn) (.slice A1 l1 q1))
              have N6q := Lib.hid (belG3 BB13.out (g := w2.heap.size) B0.out.size (.int .i64 G) (.int .i64 nn) (.slice A1 l1 q1))
              have N7q := Lib.hid (((MB.out.set (p := ⟨w2.heap.size, 0, none⟩) (Nat.ne_of_gt hqb) (.int .i64 G)).set (p := ⟨w2.heap.size, 1, none⟩) (Nat.ne_of_gt hqb) (.int .i64 nn)).set (p := ⟨w2.heap.size, 2, none⟩) (Nat.ne_of_gt hqb) (.slice A1 l1 q1))
              clear Blq Q1 RL RO BQ RG MB Blt BB13
              generalize (((w11).setCell ⟨w2.heap.size, 0, none⟩ (.int .i64 G)).setCell ⟨w2.heap.size, 1, none⟩ (.int .i64 nn)).setCell ⟨w2.heap.size, 2, none⟩ (.slice A1 l1 q1) = XX at *
              have Blq := N1q
              have Q1 := N2q
              have RL := N3q
              have RO := N4q
              have BQ := N5q
              have BX := N6q
              have MB := N7q
              clear N1q N2q N3q N4q N5q N6q N7q
              have hkw : (Lit.int .i64 (K : Int)).wf = true := wfI_in (by omega) (by omega)
              go_upto_region 21 with (at_mapUpdate; refine wpList_mapB rfl _ _ _ rfl _ _ rfl MB.out (by rw [hkl]; unfold maxLen; omega) _ rfl rfl hkw ?_; intro w9 hm9 hg9)
              have M9 := Lib.hid (show MapB w9 b ks' by have h := hm9; rw [HKS.out] at h; exact h)
              have S9 := Lib.hid (heap_keepM Blq.out MB.out (by intro es c h; cases h) hg9)
              have P9 := Lib.hid (Q1.out.keepM MB.out hg9)
              have hbw := B0.out.size
              have B9 := Lib.hid (BX.out.grown hg9 (BX.out.size) (fun q hq => by injection hq with hq; omega))
              have BQ9 := Lib.hid (BQ.out.grown hg9 (BQ.out.size) (fun q hq => by injection hq with hq; omega))
              have RL9 := Lib.hid (RL0.out.below BQ9.out)
              have RO9 := Lib.hid (RO0.out.below BQ9.out)
              clear hm9 hg9 hbw Blq MB Q1 BX BQ RL RO
              have Blq := S9
              have MB := M9
              have Q1 := P9
              have BX := B9
              have BQ := BQ9
              have RL := RL9
              have RO := RO9
              clear S9 M9 P9 B9 BQ9 RL9 RO9
              have zq := blk_lt Blq.out
              have xq0 := cellsAt Blq.out 0
              have xq1 := cellsAt Blq.out 1
              have xq2 := cellsAt Blq.out 2
              have fq := frozAt Blq.out
              simp at xq0 xq1 xq2
              go_wp2_with fail
              have HBY := came_bytes (ks := ks') hG0 (show G < 32 by omega) hS hne'
              have hoo' : cameO S ks' = (nn : Int) := by unfold cameO; rw [if_neg hne', HNN.out]
              rw [hoo', HL1.out, HNN.out] at HBY
              have HMS := came_miss (ks := ks') hG0 (show G < 32 by omega) hS hne'
              rw [hoo', HL1.out, HNN.out] at HMS
              have HSZ := came_size' (g := G) (ks := ks') HKO'.out
              rw [HL1.out] at HSZ
              have HRI := came_right (ks := ks') hG0 (show G < 32 by omega) hS
              rw [hoo'] at HRI
              have HOO' := Lib.hid hoo'
              have HSZ' := Lib.hid HSZ
              have HRI' := Lib.hid HRI
              have HMS' := Lib.hid HMS
              clear hoo' HSZ HRI HMS
              have HB := bytes_any G nn (cameL G S ks') (.slice A1 l1 q1) w9 Q1.out (by rw [HL1.out]; omega) (came_ok G S ks' hS)
              rw [HBY] at HB
              refine HB.mono ?_
              rintro e w14 ⟨rfl, hb15⟩
              clear HB HBY
              clear zq fq xq0 xq1 xq2
              have Z := Lib.hid (heap_below Blq.out hb15)
              clear Blq
              have Blq := Z
              clear Z
              have Z := Lib.hid (Row.below RL.out hb15)
              clear RL
              have RL := Z
              clear Z
              have Z := Lib.hid (Row.below RO.out hb15)
              clear RO
              have RO := Z
              clear Z
              have Z := Lib.hid (Row.below Q1.out hb15)
              clear Q1
              have Q1 := Z
              clear Z
              have Z := Lib.hid (MapB.below MB.out hb15)
              clear MB
              have MB := Z
              clear Z
              have Z := Lib.hid (bThen BQ.out hb15)
              clear BQ
              have BQ := Z
              clear Z
              have BB16 := Lib.hid (bThen BX.out hb15)
              clear hb15
              have zq := blk_lt Blq.out
              have xq0 := cellsAt Blq.out 0
              have xq1 := cellsAt Blq.out 1
              have xq2 := cellsAt Blq.out 2
              have fq := frozAt Blq.out
              simp at xq0 xq1 xq2
              by_cases hfull : l1 = nn
              · obtain rfl : l1 = nn := hfull
                rw [if_pos rfl]
                simp only
                have hSS : (S.toList == S.toList) = true := by simp
                go_wp2_with fail
                have HMI := missing_any G l1 (cameL G S ks') (.slice A1 l1 q1) w14 Q1.out (by rw [HL1.out]; omega) (came_ok G S ks' hS)
                rw [if_pos HRI'.out] at HMI
                refine HMI.mono ?_
                rintro e w17 ⟨v5, rfl, hr5, hb18⟩
                obtain ⟨A5, q5, rfl, -⟩ := hr5
                clear HMI
                clear zq fq xq0 xq1 xq2
                have Z := Lib.hid (heap_below Blq.out hb18)
                clear Blq
                have Blq := Z
                clear Z
                have Z := Lib.hid (Row.below RL.out hb18)
                clear RL
                have RL := Z
                clear Z
                have Z := Lib.hid (Row.below RO.out hb18)
                clear RO
                have RO := Z
                clear Z
                have Z := Lib.hid (Row.below Q1.out hb18)
                clear Q1
                have Q1 := Z
                clear Z
                have Z := Lib.hid (MapB.below MB.out hb18)
                clear MB
                have MB := Z
                clear Z
                have Z := Lib.hid (bThen BQ.out hb18)
                clear BQ
                have BQ := Z
                clear Z
                have BB19 := Lib.hid (bThen BB16.out hb18)
                clear hb18
                obtain ⟨p, hp⟩ : ∃ p, (missK (cameL G S ks') ((l1 : Int)).toNat).length = p := ⟨_, rfl⟩
                have hpl : p + l1 = l1 := by rw [← hp]; exact HMS'.out
                rw [hp]
                clear hp
                have hpi : (p : Int) = (l1 : Int) - (l1 : Int) := by omega
                have hpj : ((p : Int) == (l1 : Int) - (l1 : Int)) = true := by simp; omega
                obtain rfl : p = 0 := by omega
                have hln : ∀ ty, (Builtin.len_ #[54] ty #[.map (some b)]).run Try.prog w17 = .ok (.int .i64 l1) w17 := fun ty => by have h := MB.out.len ty; rw [HSZ'.out] at h; exact h
                have zq := blk_lt Blq.out
                have xq0 := cellsAt Blq.out 0
                have xq1 := cellsAt Blq.out 1
                have xq2 := cellsAt Blq.out 2
                have fq := frozAt Blq.out
                simp at xq0 xq1 xq2
                go_wp2_with fail
                refine ⟨⟨k + 1, ks', A1, q1, by omega, by go_num, hkl', HKO'.out, MB.out, ?_, ?_, BQ.out⟩, ?_⟩
                · rw [HOO'.out, HL1.out]; exact Blq.out
                · rw [HL1.out]; exact Q1.out
                · simp [intOf]; omega
              · rw [if_neg hfull]
                simp only
                have hSS : (S.toList == S.toList) = true := by simp
                have hl3 : ((l1 : Int) == (nn : Int)) = false := by simp; omega
                have hl4 : (l1 == nn) = false := by simp; omega
                go_wp2_with fail
                have HMI := missing_any G nn (cameL G S ks') (.slice A1 l1 q1) w14 Q1.out (by rw [HL1.out]; omega) (came_ok G S ks' hS)
                rw [if_pos HRI'.out] at HMI
                refine HMI.mono ?_
                rintro e w17 ⟨v5, rfl, hr5, hb18⟩
                obtain ⟨A5, q5, rfl, -⟩ := hr5
                clear HMI
                clear zq fq xq0 xq1 xq2
                have Z := Lib.hid (heap_below Blq.out hb18)
                clear Blq
                have Blq := Z
                clear Z
                have Z := Lib.hid (Row.below RL.out hb18)
                clear RL
                have RL := Z
                clear Z
                have Z := Lib.hid (Row.below RO.out hb18)
                clear RO
                have RO := Z
                clear Z
                have Z := Lib.hid (Row.below Q1.out hb18)
                clear Q1
                have Q1 := Z
                clear Z
                have Z := Lib.hid (MapB.below MB.out hb18)
                clear MB
                have MB := Z
                clear Z
                have Z := Lib.hid (bThen BQ.out hb18)
                clear BQ
                have BQ := Z
                clear Z
                have BB19 := Lib.hid (bThen BB16.out hb18)
                clear hb18
                obtain ⟨p, hp⟩ : ∃ p, (missK (cameL G S ks') ((nn : Int)).toNat).length = p := ⟨_, rfl⟩
                have hpl : p + l1 = nn := by rw [← hp]; exact HMS'.out
                rw [hp]
                clear hp
                have hpi : (p : Int) = (nn : Int) - (l1 : Int) := by omega
                have hpj : ((p : Int) == (nn : Int) - (l1 : Int)) = true := by simp; omega
                have hln : ∀ ty, (Builtin.len_ #[54] ty #[.map (some b)]).run Try.prog w17 = .ok (.int .i64 l1) w17 := fun ty => by have h := MB.out.len ty; rw [HSZ'.out] at h; exact h
                have zq := blk_lt Blq.out
                have xq0 := cellsAt Blq.out 0
                have xq1 := cellsAt Blq.out 1
                have xq2 := cellsAt Blq.out 2
                have fq := frozAt Blq.out
                simp at xq0 xq1 xq2
                go_wp2_with fail
                refine ⟨⟨k + 1, ks', A1, q1, by omega, by go_num, hkl', HKO'.out, MB.out, ?_, ?_, BQ.out⟩, ?_⟩
                · rw [HOO'.out, HL1.out]; exact Blq.out
                · rw [HL1.out]; exact Q1.out
                · simp [intOf]; omega
      · obtain rfl : k = N1 + nn := by omega
        go_wp2_with fail
        refine (calive_any _).mono ?_
        rintro e w10 ⟨rfl, hb11⟩
        have Z := Lib.hid (heap_below Blq.out hb11)
        clear Blq
        have Blq := Z
        clear Z
        have Z := Lib.hid (Row.below RL.out hb11)
        clear RL
        have RL := Z
        clear Z
        have Z := Lib.hid (Row.below RO.out hb11)
        clear RO
        have RO := Z
        clear Z
        have Z := Lib.hid (Row.below RG.out hb11)
        clear RG
        have RG := Z
        clear Z
        have Z := Lib.hid (MapB.below MB.out hb11)
        clear MB
        have MB := Z
        clear Z
        have Z := Lib.hid (bThen BQ.out hb11)
        clear BQ
        have BQ := Z
        clear Z
        have BB12 := Lib.hid (bThen BR.out hb11)
        clear hb11
        go_wp2_with fail
        go_ret
        exact ⟨rfl, BB12.out⟩
end Go.Proofs.Ytdanfeldbdooeaa
