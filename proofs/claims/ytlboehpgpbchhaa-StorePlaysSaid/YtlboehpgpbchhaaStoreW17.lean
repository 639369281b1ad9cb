/-
  WALKS of layer 17: the law StorePlays.
-/
import Derived.Test.YtlboehpgpbchhaaStoreW16
set_option linter.unusedVariables false
set_option linter.unusedSimpArgs false
namespace Go.Proofs.Ytlboehpgpbchhaa
open Go.ChangeShapes Go.WideShapes Go.ChangeAt Go.RowKit Go.Deep

/-- A turn: its row of cells as it stands in memory, the cells that this reads as, and the steps. -/
structure Tn where
  row : Value
  l : List Cl
  left : Int
def Tn.cs (t : Tn) : List Value := [t.row, .int .i64 t.left]
theorem Tn.cs_len (t : Tn) : t.cs.length = 2 := rfl
def Tn.At (W : World) (t : Tn) : Prop := ClIn W t.row t.l
theorem Tn.At.below {W W' : World} {t : Tn} (h : t.At W) (hb : Below W.heap.size W W') : t.At W' := ClIn.below h hb
section
variable {H : Type} {enc : TypeId × Value → H} {W : World} {base : Nat} {spare : Nat → Bool} {held : Bool}
theorem cells3 : Try.prog.cellsOf 3 = 1 := by kernel_rfl
theorem cellsT : Try.prog.cellsOf 40 = 2 := by kernel_rfl
theorem openT {n : Nat} {cs : List Value} {z : DataW H × List MemPlace} (h : DataW.trod enc Try.prog W base spare held n 40 cs = some z) (hl : cs.length = 2) : ∃ x : Tn, cs = x.cs ∧ x.At W := by
  match cs, hl with
  | [c0, c1], _ =>
    obtain ⟨xs, m, _, _, _, hlen, hg⟩ := DataW.trod_struct Try.underlying40 h
    match xs, hlen with
    | [y0, y1], _ =>
      obtain ⟨l, hr⟩ := open_cls (enc := enc) (W := W) (base := base) (spare := spare) (held := held) (n := m) (c := c0) (z := y0) (by simpa [cellsLC] using hg 0 _ rfl)
      obtain ⟨a, e1, _, b1⟩ := DataW.trod_int Try.underlying3 (x := y1) (by simpa [cells3] using hg 1 _ rfl)
      simp at e1
      exact ⟨⟨c0, l, a⟩, by rw [e1]; rfl, hr⟩
set_option maxRecDepth 100000 in
theorem arg_turns {r : Reach} {b : Nat} {v : Value} {d : DataW H} {p : List MemPlace} (hok : Value.okWide Try.prog W r b 38 v) (h : DataW.Trod enc Try.prog W base spare held 38 v d p) :
    ∃ x, v = x ∧ ∃ l : List Tn, Row Tn.cs 2 W x l ∧ (∀ t ∈ l, t.At W) ∧ l.length ≤ maxLen := by
  obtain ⟨a, n, c, rfl⟩ := okWide_slice Try.underlying38 hok
  obtain ⟨fuel, hf⟩ := h
  obtain ⟨l, h1, h2, h3⟩ := open_rows (c := .slice a n c) Try.underlying38 cellsT (by decide) Tn.cs_len openT (by simpa [Value.cells] using hf)
  exact ⟨_, rfl, l, h1, h2, h3⟩
end
/-- What holds at the head of each turn. -/
def PlRel (w : World) (n : Nat) (vw i : Value) (wr : World) : Prop :=
  ∃ (k : Nat) (want : List Cl) (A1 : Option Addr) (n1 c1 : Nat) (A2 : Option Addr) (n2 c2 : Nat), k ≤ n ∧ i = .int .i64 k ∧ wr.heap[w.heap.size]? = some (.cells #[.slice A1 n1 c1, .slice A2 n2 c2, .bool false] 24 (0, 0)) ∧
    StAt wr (.agg #[.slice A1 n1 c1, .slice A2 n2 c2, .bool false]) ⟨want, [], false⟩ ∧ Row Cl.cs 2 wr vw want ∧ rightB want [] = true ∧ Below w.heap.size w wr
def InRel (W9 : World) (n : Nat) (i : Value) (wr : World) : Prop := ∃ k : Nat, k ≤ n ∧ i = .int .i64 k ∧ Below W9.heap.size W9 wr
theorem Row.set3 {W : World} {v : Value} {l : List Cl} (h : Row Cl.cs 2 W v l) {g : Nat} (hg : NoStr W g) {A1 A2 : Option Addr} {n1 c1 n2 c2 : Nat} {d : Bool} :
    Row Cl.cs 2 (((W.setCell ⟨g, 0, none⟩ (.slice A1 n1 c1)).setCell ⟨g, 1, none⟩ (.slice A2 n2 c2)).setCell ⟨g, 2, none⟩ (.bool d)) v l := by
  have x1 := hg.set 0 (u := .slice A1 n1 c1) (by simp)
  have x2 := x1.set 1 (u := .slice A2 n2 c2) (by simp)
  exact ((h.setG hg _ _).setG x1 _ _).setG x2 _ _
set_option maxRecDepth 100000 in
set_option maxHeartbeats 8000000 in
theorem plays_walk (ts : List Tn) (v : Value) (w : World) (hv : Row Tn.cs 2 w v ts) (ht : ∀ t ∈ ts, t.At w) (hn : ts.length ≤ maxLen) :
    Calls Try.prog 6 #[v] w fun e w' => e = .returned (.bool true) ∧ Below w.heap.size w w' := by
  have HV := Lib.hid hv
  have HT := Lib.hid ht
  obtain ⟨A, c, rfl, -⟩ := hv
  obtain ⟨n, hnn⟩ : ∃ n, ts.length = n := ⟨_, rfl⟩
  rw [hnn] at HV hn ⊢
  have Hn := Lib.hid hnn
  unfold maxLen at hn
  clear hnn ht
  go_enter Try.func6, Try.ntmps6
  go_wp2_with fail
  obtain ⟨W1, hW2⟩ : ∃ X, X = (w).alloc (.cells #[.slice none 0 0, .slice none 0 0, .bool false] 24) := ⟨_, rfl⟩
  rw [← hW2]
  have hb3 : Below w.heap.size w W1 := by rw [hW2]; exact bel_alloc (Below.refl _ _) _
  have Ns := Lib.hid (show W1.heap[w.heap.size]? = some (.cells #[.slice none 0 0, .slice none 0 0, .bool false] 24 (0, 0)) by rw [hW2]; exact heap_at (w) _ (w.heap.size) (by simp))
  clear hW2
  have BB4 := Lib.hid hb3
  clear hb3
  have Bls := Ns
  clear Ns
  go_loopw [4, 18] (fun vw i wr => PlRel w n vw i wr) (fun _ i _ => n - (intOf i).toNat)
  case atStart => exact ⟨0, [], none, 0, 0, none, 0, 0, Nat.zero_le _, rfl, Bls.out, zS_at _, Row.none_, rfl, BB4.out⟩
  case round =>
    clear Bls BB4
    obtain ⟨k, want, A1, n1, c1, A2, n2, c2, hk, rfl, hbs, hst, hrw, hrt, hbk⟩ := hrel
    have Bls := Lib.hid hbs
    have Kp := Lib.hid hst
    have HRT := Lib.hid hrt
    have BB0 := Lib.hid hbk
    have RT := Lib.hid (HV.out.below hbk)
    have RW := Lib.hid hrw
    have HTB := Lib.hid (fun t ht => (HT.out t ht).below hbk)
    obtain ⟨Aw, cw, rfl, -⟩ := hrw
    clear hbs hst hrt hbk
    obtain ⟨mw, hmw⟩ : ∃ m, want.length = m := ⟨_, rfl⟩
    rw [hmw] at RW ⊢
    have Hmw := Lib.hid hmw
    clear hmw
    by_cases hlt : k < n
    · obtain ⟨t, hi⟩ : ∃ t, ts[k]? = some t := ⟨_, List.getElem?_eq_getElem (by rw [Hn.out]; exact hlt)⟩
      have hta := HTB.out t (List.mem_of_getElem? hi)
      obtain ⟨b3, o3, c5, e', hc', hb3, hX⟩ := RT.out.at_ hi
      injection e' with e1 e2 e3
      clear e2
      subst e1 e3
      have k0 := hX 0 _ rfl
      have k1 := hX 1 _ rfl
      clear hX hi HTB
      simp only [Nat.add_zero] at k0 k1
      have RC := Lib.hid hta
      obtain ⟨trow, l, left⟩ := t
      obtain ⟨⟨A3, c3, htr, -⟩, -, hln⟩ := hta
      simp only at k0 k1 RC hln htr
      subst htr
      obtain ⟨nl, hnl⟩ : ∃ m, l.length = m := ⟨_, rfl⟩
      rw [hnl] at k0 hln RC
      unfold maxLen at hln
      have Hnl := Lib.hid hnl
      clear hnl
      go_upto_region 6 with fail
      clear k0 k1
      obtain ⟨W5, hW6⟩ : ∃ X, X = (wr).alloc (.cells #[.slice A3 nl c3, .int .i64 left] 40) := ⟨_, rfl⟩
      rw [← hW6]
      have hb7 : Below wr.heap.size wr W5 := by rw [hW6]; exact bel_alloc (Below.refl _ _) _
      have Nt := Lib.hid (show W5.heap[wr.heap.size]? = some (.cells #[.slice A3 nl c3, .int .i64 left] 40 (0, 0)) by rw [hW6]; exact heap_at (wr) _ (wr.heap.size) (by simp))
      clear hW6
      have Z := Lib.hid (heap_below Bls.out hb7)
      clear Bls
      have Bls := Z
      clear Z
      have Z := Lib.hid (StAt.below Kp.out hb7)
      clear Kp
      have Kp := Z
      clear Z
      have Z := Lib.hid (Row.below RW.out hb7)
      clear RW
      have RW := Z
      clear Z
      have Z := Lib.hid (ClIn.below RC.out hb7)
      clear RC
      have RC := Z
      clear Z
      have BB8 := Lib.hid (bThen BB0.out hb7)
      clear hb7
      have Blt := Nt
      clear Nt
      have zt := blk_lt Blt.out
      have xt0 := cellsAt Blt.out 0
      have xt1 := cellsAt Blt.out 1
      have ft := frozAt Blt.out
      simp at xt0 xt1
      by_cases h30 : 30 ≤ k
      · have t3 : decide ((30 : Int) ≤ (k : Int)) = true := by simp; omega
        have t3n : decide (30 ≤ k) = true := by simp; omega
        go_wp2_with fail
        go_roundw
        case rel => exact ⟨k + 1, want, A1, n1, c1, A2, n2, c2, by omega, by go_num, Bls.out, Kp.out, RW.out, HRT.out, BB8.out⟩
        case measure => simp [intOf]; omega
      · have t3 : decide ((30 : Int) ≤ (k : Int)) = false := by simp; omega
        have t3n : decide (30 ≤ k) = false := by simp; omega
        by_cases h20 : 20 < nl
        · have t2 : decide ((20 : Int) < (nl : Int)) = true := by simp; omega
          have t2n : decide (20 < nl) = true := by simp; omega
          go_wp2_with fail
          go_roundw
          case rel => exact ⟨k + 1, want, A1, n1, c1, A2, n2, c2, by omega, by go_num, Bls.out, Kp.out, RW.out, HRT.out, BB8.out⟩
          case measure => simp [intOf]; omega
        · have t2 : decide ((20 : Int) < (nl : Int)) = false := by simp; omega
          have t2n : decide (20 < nl) = false := by simp; omega
          have Ku := Lib.hid (RC.out.ok (by rw [Hnl.out]; omega))
          clear RC
          have HBA := Lib.hid (fun W v u h1 h2 => batch_any ⟨want, [], false⟩ l left v u W h1 h2)
          have hbr := batch_res (l := l) (left := left) HRT.out
          go_upto_region 7 with fail
          clear zt ft xt0 xt1
          have zs := blk_lt Bls.out
          have xs0 := cellsAt Bls.out 0
          have xs1 := cellsAt Bls.out 1
          have xs2 := cellsAt Bls.out 2
          have fs := frozAt Bls.out
          simp at xs0 xs1 xs2
          have zt := blk_lt Blt.out
          have xt0 := cellsAt Blt.out 0
          have xt1 := cellsAt Blt.out 1
          have ft := frozAt Blt.out
          simp at xt0 xt1
          rcases hbr with ⟨j, hj, hlf, hb, hrj⟩ | ⟨hb, hrc⟩ | hb | hb
          · have HA := Lib.hid (fun W v u h1 h2 => ans_of (HBA.out W v u h1 h2) hb)
            have HST := Lib.hid (fun W v h => ans_of (start_any ⟨want, l.take j, true⟩ v W h) (start_yes hrj))
            unfold AnsTo at HA HST
            simp only at HA HST
            clear hb hrj HBA hj hlf
            go_wp2_with fail
            refine (HA.out _ _ _ Kp.out Ku.out).mono ?_
            rintro e w9 ⟨A1a, n1a, c1a, A2a, n2a, c2a, rfl, hka, hb10⟩
            clear zs fs xs0 xs1 xs2 zt ft xt0 xt1
            have Z := Lib.hid (heap_below Bls.out hb10)
            clear Bls
            have Bls := Z
            clear Z
            have Z := Lib.hid (heap_below Blt.out hb10)
            clear Blt
            have Blt := Z
            clear Z
            have Z := Lib.hid (StAt.below Kp.out hb10)
            clear Kp
            have Kp := Z
            clear Z
            have Z := Lib.hid (Row.below RW.out hb10)
            clear RW
            have RW := Z
            clear Z
            have Z := Lib.hid (OkRow.below Ku.out hb10)
            clear Ku
            have Ku := Z
            clear Z
            have BB11 := Lib.hid (bThen BB8.out hb10)
            clear hb10
            have Ka := Lib.hid hka
            clear hka
            go_upto_region 8 with fail
            obtain ⟨W12, hW13⟩ : ∃ X, X = (w9).alloc (.cells #[.slice A1a n1a c1a, .slice A2a n2a c2a, .bool true] 24) := ⟨_, rfl⟩
            rw [← hW13]
            have hb14 : Below w9.heap.size w9 W12 := by rw [hW13]; exact bel_alloc (Below.refl _ _) _
            have Na := Lib.hid (show W12.heap[w9.heap.size]? = some (.cells #[.slice A1a n1a c1a, .slice A2a n2a c2a, .bool true] 24 (0, 0)) by rw [hW13]; exact heap_at (w9) _ (w9.heap.size) (by simp))
            clear hW13
            have Z := Lib.hid (heap_below Bls.out hb14)
            clear Bls
            have Bls := Z
            clear Z
            have Z := Lib.hid (heap_below Blt.out hb14)
            clear Blt
            have Blt := Z
            clear Z
            have Z := Lib.hid (StAt.below Kp.out hb14)
            clear Kp
            have Kp := Z
            clear Z
            have Z := Lib.hid (Row.below RW.out hb14)
            clear RW
            have RW := Z
            clear Z
            have Z := Lib.hid (OkRow.below Ku.out hb14)
            clear Ku
            have Ku := Z
            clear Z
            have Z := Lib.hid (StAt.below Ka.out hb14)
            clear Ka
            have Ka := Z
            clear Z
            have BB15 := Lib.hid (bThen BB11.out hb14)
            clear hb14
            have Bla := Na
            clear Na
            go_upto_region 12 with fail
            have za := blk_lt Bla.out
            have xa0 := cellsAt Bla.out 0
            have xa1 := cellsAt Bla.out 1
            have xa2 := cellsAt Bla.out 2
            have fa := frozAt Bla.out
            simp at xa0 xa1 xa2
            go_wp2_with fail
            refine (HST.out _ _ Ka.out).mono ?_
            rintro e w16 ⟨A1b, n1b, c1b, A2b, n2b, c2b, rfl, hkb, hb17⟩
            clear za fa xa0 xa1 xa2
            have Z := Lib.hid (heap_below Bls.out hb17)
            clear Bls
            have Bls := Z
            clear Z
            have Z := Lib.hid (heap_below Blt.out hb17)
            clear Blt
            have Blt := Z
            clear Z
            have Z := Lib.hid (heap_below Bla.out hb17)
            clear Bla
            have Bla := Z
            clear Z
            have Z := Lib.hid (StAt.below Kp.out hb17)
            clear Kp
            have Kp := Z
            clear Z
            have Z := Lib.hid (Row.below RW.out hb17)
            clear RW
            have RW := Z
            clear Z
            have Z := Lib.hid (OkRow.below Ku.out hb17)
            clear Ku
            have Ku := Z
            clear Z
            have Z := Lib.hid (StAt.below Ka.out hb17)
            clear Ka
            have Ka := Z
            clear Z
            have BB18 := Lib.hid (bThen BB15.out hb17)
            clear hb17
            have Kb := Lib.hid hkb
            clear hkb
            go_upto_region 13 with fail
            obtain ⟨W19, hW20⟩ : ∃ X, X = (w16).alloc (.cells #[.slice A1b n1b c1b, .slice A2b n2b c2b, .bool false] 24) := ⟨_, rfl⟩
            rw [← hW20]
            have hb21 : Below w16.heap.size w16 W19 := by rw [hW20]; exact bel_alloc (Below.refl _ _) _
            have Nb := Lib.hid (show W19.heap[w16.heap.size]? = some (.cells #[.slice A1b n1b c1b, .slice A2b n2b c2b, .bool false] 24 (0, 0)) by rw [hW20]; exact heap_at (w16) _ (w16.heap.size) (by simp))
            clear hW20
            have Z := Lib.hid (heap_below Bls.out hb21)
            clear Bls
            have Bls := Z
            clear Z
            have Z := Lib.hid (heap_below Blt.out hb21)
            clear Blt
            have Blt := Z
            clear Z
            have Z := Lib.hid (heap_below Bla.out hb21)
            clear Bla
            have Bla := Z
            clear Z
            have Z := Lib.hid (StAt.below Kp.out hb21)
            clear Kp
            have Kp := Z
            clear Z
            have Z := Lib.hid (Row.below RW.out hb21)
            clear RW
            have RW := Z
            clear Z
            have Z := Lib.hid (OkRow.below Ku.out hb21)
            clear Ku
            have Ku := Z
            clear Z
            have Z := Lib.hid (StAt.below Ka.out hb21)
            clear Ka
            have Ka := Z
            clear Z
            have Z := Lib.hid (StAt.below Kb.out hb21)
            clear Kb
            have Kb := Z
            clear Z
            have BB22 := Lib.hid (bThen BB18.out hb21)
            clear hb21
            have Blb := Nb
            clear Nb
            go_upto_region 15 with fail
            have zb := blk_lt Blb.out
            have xb0 := cellsAt Blb.out 0
            have xb1 := cellsAt Blb.out 1
            have xb2 := cellsAt Blb.out 2
            have fb := frozAt Blb.out
            simp at xb0 xb1 xb2
            have zs := blk_lt Bls.out
            have xs0 := cellsAt Bls.out 0
            have xs1 := cellsAt Bls.out 1
            have xs2 := cellsAt Bls.out 2
            have fs := frozAt Bls.out
            simp at xs0 xs1 xs2
            go_upto_region 16 with fail
            have NS := Lib.hid (set3 Bls.out (.slice A1b n1b c1b) (.slice A2b n2b c2b) (.bool false))
            have NK := Lib.hid (Kb.out.set3 (nostr3 Bls.out) (A1 := A1b) (n1 := n1b) (c1 := c1b) (A2 := A2b) (n2 := n2b) (c2 := c2b) (d := false))
            have NR := Lib.hid (RW.out.set3 (nostr3 Bls.out) (A1 := A1b) (n1 := n1b) (c1 := c1b) (A2 := A2b) (n2 := n2b) (c2 := c2b) (d := false))
            have NB := Lib.hid (bel3 BB22.out (Nat.le_refl _) (.slice A1b n1b c1b) (.slice A2b n2b c2b) (.bool false))
            clear zb fb xb0 xb1 xb2 zs fs xs0 xs1 xs2
            generalize (((W19.setCell ⟨w.heap.size, 0, none⟩ (.slice A1b n1b c1b)).setCell ⟨w.heap.size, 1, none⟩ (.slice A2b n2b c2b)).setCell ⟨w.heap.size, 2, none⟩ (.bool false)) = W9 at *
            clear Bls BB22
            have Bls := NS
            have HRS := Lib.hid (fun W (h : StAt W (.agg #[.slice A1b n1b c1b, .slice A2b n2b c2b, .bool false]) ⟨want, [], false⟩) => sright_any want [] false _ _ W h.rows.1 h.rows.2 true HRT.out)
            have hb64 : mw ≤ 64 := by rw [← Hmw.out]; exact (right_iff.1 HRT.out).len
            have zs := blk_lt Bls.out
            have xs0 := cellsAt Bls.out 0
            have xs1 := cellsAt Bls.out 1
            have xs2 := cellsAt Bls.out 2
            have fs := frozAt Bls.out
            simp at xs0 xs1 xs2
            go_wp2_with fail
            refine (HRS.out _ NK.out).mono ?_
            rintro e w23 ⟨rfl, hb24⟩
            clear zs fs xs0 xs1 xs2
            have Z := Lib.hid (heap_below Bls.out hb24)
            clear Bls
            have Bls := Z
            clear Z
            have Z := Lib.hid (StAt.below NK.out hb24)
            clear NK
            have NK := Z
            clear Z
            have Z := Lib.hid (Row.below NR.out hb24)
            clear NR
            have NR := Z
            clear Z
            have BB25 := Lib.hid (bThen NB.out hb24)
            clear hb24
            have zs := blk_lt Bls.out
            have xs0 := cellsAt Bls.out 0
            have xs1 := cellsAt Bls.out 1
            have xs2 := cellsAt Bls.out 2
            have fs := frozAt Bls.out
            simp at xs0 xs1 xs2
            go_wp2_with fail
            refine (likeC_same (want) _ _ _ NK.out.rows.1.1 NR.out NK.out.rows.1.2.2).mono ?_
            rintro e w26 ⟨rfl, hb27⟩
            clear zs fs xs0 xs1 xs2
            have Z := Lib.hid (heap_below Bls.out hb27)
            clear Bls
            have Bls := Z
            clear Z
            have Z := Lib.hid (StAt.below NK.out hb27)
            clear NK
            have NK := Z
            clear Z
            have Z := Lib.hid (Row.below NR.out hb27)
            clear NR
            have NR := Z
            clear Z
            have BB28 := Lib.hid (bThen BB25.out hb27)
            clear hb27
            go_wp2_with fail
            have BlsC := Bls
            have KC := NK
            have RWC := NR
            have BBC := BB28
            go_loopw [69] (fun i wr => InRel w26 mw i wr) (fun i _ => mw - (intOf i).toNat)
            case atStart => exact ⟨0, Nat.zero_le _, rfl, Below.refl _ _⟩
            case round =>
              clear Bls NK NR BB28
              obtain ⟨q, hq, rfl, hbq⟩ := hrel
              have BQ := Lib.hid hbq
              have Bls := Lib.hid (heap_below BlsC.out hbq)
              have NK := Lib.hid (KC.out.below hbq)
              have NR := Lib.hid (RWC.out.below hbq)
              have BBX := Lib.hid (bThen BBC.out hbq)
              clear hbq
              by_cases hlq : q < mw
              · obtain ⟨x, hx⟩ : ∃ x, (want)[q]? = some x := ⟨_, List.getElem?_eq_getElem (by rw [Hmw.out]; exact hlq)⟩
                have HRD := Lib.hid (fun W v h => read_any ⟨want, [], false⟩ x.n v W h)
                unfold RdTo at HRD
                rw [read_in HRT.out (List.mem_of_getElem? hx)] at HRD
                obtain ⟨b6, o6, c7, e', hc', hb6, hX⟩ := NR.out.at_ hx
                injection e' with e1 e2 e3
                clear e2
                subst e1 e3
                have k0 := hX 0 _ rfl
                have k1 := hX 1 _ rfl
                clear hX hx
                simp only [Nat.add_zero] at k0 k1
                obtain ⟨xn, xb⟩ := x
                simp only at k0 k1 HRD
                go_upto_region 21 with fail
                clear k0 k1
                obtain ⟨W29, hW30⟩ : ∃ X, X = (wr).alloc (.cells #[.string xn, .string xb] 43) := ⟨_, rfl⟩
                rw [← hW30]
                have hb31 : Below wr.heap.size wr W29 := by rw [hW30]; exact bel_alloc (Below.refl _ _) _
                have BX1 := Lib.hid hb31
                have Nx := Lib.hid (show W29.heap[wr.heap.size]? = some (.cells #[.string xn, .string xb] 43 (0, 0)) by rw [hW30]; exact heap_at (wr) _ (wr.heap.size) (by simp))
                clear hW30
                have Z := Lib.hid (heap_below Bls.out hb31)
                clear Bls
                have Bls := Z
                clear Z
                have Z := Lib.hid (StAt.below NK.out hb31)
                clear NK
                have NK := Z
                clear Z
                have Z := Lib.hid (Row.below NR.out hb31)
                clear NR
                have NR := Z
                clear Z
                have BB32 := Lib.hid (bThen BBX.out hb31)
                clear hb31
                have Blx := Nx
                clear Nx
                have zs := blk_lt Bls.out
                have xs0 := cellsAt Bls.out 0
                have xs1 := cellsAt Bls.out 1
                have xs2 := cellsAt Bls.out 2
                have fs := frozAt Bls.out
                simp at xs0 xs1 xs2
                have zx := blk_lt Blx.out
                have xx0 := cellsAt Blx.out 0
                have xx1 := cellsAt Blx.out 1
                have fx := frozAt Blx.out
                simp at xx0 xx1
                go_wp2_with fail
                refine (HRD.out _ _ NK.out).mono ?_
                rintro e w33 ⟨rfl, hb34⟩
                have BX2 := Lib.hid hb34
                clear zs fs xs0 xs1 xs2 zx fx xx0 xx1
                have Z := Lib.hid (heap_below Bls.out hb34)
                clear Bls
                have Bls := Z
                clear Z
                have Z := Lib.hid (heap_below Blx.out hb34)
                clear Blx
                have Blx := Z
                clear Z
                have Z := Lib.hid (StAt.below NK.out hb34)
                clear NK
                have NK := Z
                clear Z
                have Z := Lib.hid (Row.below NR.out hb34)
                clear NR
                have NR := Z
                clear Z
                have BB35 := Lib.hid (bThen BB32.out hb34)
                clear hb34
                have zx := blk_lt Blx.out
                have xx0 := cellsAt Blx.out 0
                have xx1 := cellsAt Blx.out 1
                have fx := frozAt Blx.out
                simp at xx0 xx1
                go_wp2_with fail
                go_roundw
                case rel => exact ⟨q + 1, by omega, by go_num, bThen (bThen BQ.out BX1.out) BX2.out⟩
                case measure => simp [intOf]; omega
              · obtain rfl : q = mw := by omega
                go_wp2_with fail
                go_roundw
                case rel => exact ⟨k + 1, want, A1b, n1b, c1b, A2b, n2b, c2b, by omega, by go_num, Bls.out, NK.out, NR.out, HRT.out, BBX.out⟩
                case measure => simp [intOf]; omega
          · have HA := Lib.hid (fun W v u h1 h2 => ans_of (HBA.out W v u h1 h2) hb)
            unfold AnsTo at HA
            simp only at HA
            have HRC := Lib.hid hrc
            have HRI := Lib.hid (right_iff.1 HRT.out).rise
            have HWL := Lib.hid (right_iff.1 HRT.out).len
            clear hb HBA hrc
            go_wp2_with fail
            refine (HA.out _ _ _ Kp.out Ku.out).mono ?_
            rintro e w9 ⟨A1a, n1a, c1a, A2a, n2a, c2a, rfl, hka, hb10⟩
            clear zs fs xs0 xs1 xs2 zt ft xt0 xt1
            have Z := Lib.hid (heap_below Bls.out hb10)
            clear Bls
            have Bls := Z
            clear Z
            have Z := Lib.hid (heap_below Blt.out hb10)
            clear Blt
            have Blt := Z
            clear Z
            have Z := Lib.hid (StAt.below Kp.out hb10)
            clear Kp
            have Kp := Z
            clear Z
            have Z := Lib.hid (Row.below RW.out hb10)
            clear RW
            have RW := Z
            clear Z
            have Z := Lib.hid (OkRow.below Ku.out hb10)
            clear Ku
            have Ku := Z
            clear Z
            have BB11 := Lib.hid (bThen BB8.out hb10)
            clear hb10
            have Ka := Lib.hid hka
            clear hka
            go_upto_region 8 with fail
            obtain ⟨W12, hW13⟩ : ∃ X, X = (w9).alloc (.cells #[.slice A1a n1a c1a, .slice A2a n2a c2a, .bool false] 24) := ⟨_, rfl⟩
            rw [← hW13]
            have hb14 : Below w9.heap.size w9 W12 := by rw [hW13]; exact bel_alloc (Below.refl _ _) _
            have Na := Lib.hid (show W12.heap[w9.heap.size]? = some (.cells #[.slice A1a n1a c1a, .slice A2a n2a c2a, .bool false] 24 (0, 0)) by rw [hW13]; exact heap_at (w9) _ (w9.heap.size) (by simp))
            clear hW13
            have Z := Lib.hid (heap_below Bls.out hb14)
            clear Bls
            have Bls := Z
            clear Z
            have Z := Lib.hid (heap_below Blt.out hb14)
            clear Blt
            have Blt := Z
            clear Z
            have Z := Lib.hid (StAt.below Kp.out hb14)
            clear Kp
            have Kp := Z
            clear Z
            have Z := Lib.hid (Row.below RW.out hb14)
            clear RW
            have RW := Z
            clear Z
            have Z := Lib.hid (OkRow.below Ku.out hb14)
            clear Ku
            have Ku := Z
            clear Z
            have Z := Lib.hid (StAt.below Ka.out hb14)
            clear Ka
            have Ka := Z
            clear Z
            have BB15 := Lib.hid (bThen BB11.out hb14)
            clear hb14
            have Bla := Na
            clear Na
            go_upto_region 9 with fail
            have zt := blk_lt Blt.out
            have xt0 := cellsAt Blt.out 0
            have xt1 := cellsAt Blt.out 1
            have ft := frozAt Blt.out
            simp at xt0 xt1
            go_wp2_with fail
            refine (rcount_any want l _ _ _ RW.out Ku.out.1 (by have := HWL.out; omega) (by rw [Hnl.out]; omega) HRI.out).mono ?_
            rintro e w16 ⟨v9, rfl, hr9, hb17⟩
            clear zt ft xt0 xt1
            have Z := Lib.hid (heap_below Bls.out hb17)
            clear Bls
            have Bls := Z
            clear Z
            have Z := Lib.hid (heap_below Blt.out hb17)
            clear Blt
            have Blt := Z
            clear Z
            have Z := Lib.hid (heap_below Bla.out hb17)
            clear Bla
            have Bla := Z
            clear Z
            have Z := Lib.hid (StAt.below Kp.out hb17)
            clear Kp
            have Kp := Z
            clear Z
            have Z := Lib.hid (Row.below RW.out hb17)
            clear RW
            have RW := Z
            clear Z
            have Z := Lib.hid (OkRow.below Ku.out hb17)
            clear Ku
            have Ku := Z
            clear Z
            have Z := Lib.hid (StAt.below Ka.out hb17)
            clear Ka
            have Ka := Z
            clear Z
            have BB18 := Lib.hid (bThen BB15.out hb17)
            clear hb17
            have R9 := Lib.hid hr9
            obtain ⟨A9, c9, rfl, -⟩ := hr9
            obtain ⟨m9, hm9⟩ : ∃ m, (countL want l).length = m := ⟨_, rfl⟩
            rw [hm9] at R9 ⊢
            have Hm9 := Lib.hid hm9
            clear hm9
            go_upto_region 10 with fail
            have za := blk_lt Bla.out
            have xa0 := cellsAt Bla.out 0
            have xa1 := cellsAt Bla.out 1
            have xa2 := cellsAt Bla.out 2
            have fa := frozAt Bla.out
            simp at xa0 xa1 xa2
            have zs := blk_lt Bls.out
            have xs0 := cellsAt Bls.out 0
            have xs1 := cellsAt Bls.out 1
            have xs2 := cellsAt Bls.out 2
            have fs := frozAt Bls.out
            simp at xs0 xs1 xs2
            go_upto_region 11 with fail
            have NS := Lib.hid (set3 Bls.out (.slice A1a n1a c1a) (.slice A2a n2a c2a) (.bool false))
            have NK := Lib.hid (Ka.out.set3 (nostr3 Bls.out) (A1 := A1a) (n1 := n1a) (c1 := c1a) (A2 := A2a) (n2 := n2a) (c2 := c2a) (d := false))
            have NR := Lib.hid (R9.out.set3 (nostr3 Bls.out) (A1 := A1a) (n1 := n1a) (c1 := c1a) (A2 := A2a) (n2 := n2a) (c2 := c2a) (d := false))
            have NB := Lib.hid (bel3 BB18.out (Nat.le_refl _) (.slice A1a n1a c1a) (.slice A2a n2a c2a) (.bool false))
            clear za fa xa0 xa1 xa2 zs fs xs0 xs1 xs2
            generalize (((w16.setCell ⟨w.heap.size, 0, none⟩ (.slice A1a n1a c1a)).setCell ⟨w.heap.size, 1, none⟩ (.slice A2a n2a c2a)).setCell ⟨w.heap.size, 2, none⟩ (.bool false)) = W9 at *
            clear Bls BB18
            have Bls := NS
            go_upto_region 16 with fail
            have HRS := Lib.hid (fun W (h : StAt W (.agg #[.slice A1a n1a c1a, .slice A2a n2a c2a, .bool false]) ⟨(countL want l), [], false⟩) => sright_any (countL want l) [] false _ _ W h.rows.1 h.rows.2 true HRC.out)
            have hb64 : m9 ≤ 64 := by rw [← Hm9.out]; exact (right_iff.1 HRC.out).len
            have zs := blk_lt Bls.out
            have xs0 := cellsAt Bls.out 0
            have xs1 := cellsAt Bls.out 1
            have xs2 := cellsAt Bls.out 2
            have fs := frozAt Bls.out
            simp at xs0 xs1 xs2
            go_wp2_with fail
            refine (HRS.out _ NK.out).mono ?_
            rintro e w19 ⟨rfl, hb20⟩
            clear zs fs xs0 xs1 xs2
            have Z := Lib.hid (heap_below Bls.out hb20)
            clear Bls
            have Bls := Z
            clear Z
            have Z := Lib.hid (StAt.below NK.out hb20)
            clear NK
            have NK := Z
            clear Z
            have Z := Lib.hid (Row.below NR.out hb20)
            clear NR
            have NR := Z
            clear Z
            have BB21 := Lib.hid (bThen NB.out hb20)
            clear hb20
            have zs := blk_lt Bls.out
            have xs0 := cellsAt Bls.out 0
            have xs1 := cellsAt Bls.out 1
            have xs2 := cellsAt Bls.out 2
            have fs := frozAt Bls.out
            simp at xs0 xs1 xs2
            go_wp2_with fail
            refine (likeC_same ((countL want l)) _ _ _ NK.out.rows.1.1 NR.out NK.out.rows.1.2.2).mono ?_
            rintro e w22 ⟨rfl, hb23⟩
            clear zs fs xs0 xs1 xs2
            have Z := Lib.hid (heap_below Bls.out hb23)
            clear Bls
            have Bls := Z
            clear Z
            have Z := Lib.hid (StAt.below NK.out hb23)
            clear NK
            have NK := Z
            clear Z
            have Z := Lib.hid (Row.below NR.out hb23)
            clear NR
            have NR := Z
            clear Z
            have BB24 := Lib.hid (bThen BB21.out hb23)
            clear hb23
            go_wp2_with fail
            have BlsC := Bls
            have KC := NK
            have RWC := NR
            have BBC := BB24
            go_loopw [69] (fun i wr => InRel w22 m9 i wr) (fun i _ => m9 - (intOf i).toNat)
            case atStart => exact ⟨0, Nat.zero_le _, rfl, Below.refl _ _⟩
            case round =>
              clear Bls NK NR BB24
              obtain ⟨q, hq, rfl, hbq⟩ := hrel
              have BQ := Lib.hid hbq
              have Bls := Lib.hid (heap_below BlsC.out hbq)
              have NK := Lib.hid (KC.out.below hbq)
              have NR := Lib.hid (RWC.out.below hbq)
              have BBX := Lib.hid (bThen BBC.out hbq)
              clear hbq
              by_cases hlq : q < m9
              · obtain ⟨x, hx⟩ : ∃ x, ((countL want l))[q]? = some x := ⟨_, List.getElem?_eq_getElem (by rw [Hm9.out]; exact hlq)⟩
                have HRD := Lib.hid (fun W v h => read_any ⟨(countL want l), [], false⟩ x.n v W h)
                unfold RdTo at HRD
                rw [read_in HRC.out (List.mem_of_getElem? hx)] at HRD
                obtain ⟨b6, o6, c7, e', hc', hb6, hX⟩ := NR.out.at_ hx
                injection e' with e1 e2 e3
                clear e2
                subst e1 e3
                have k0 := hX 0 _ rfl
                have k1 := hX 1 _ rfl
                clear hX hx
                simp only [Nat.add_zero] at k0 k1
                obtain ⟨xn, xb⟩ := x
                simp only at k0 k1 HRD
                go_upto_region 21 with fail
                clear k0 k1
                obtain ⟨W25, hW26⟩ : ∃ X, X = (wr).alloc (.cells #[.string xn, .string xb] 43) := ⟨_, rfl⟩
                rw [← hW26]
                have hb27 : Below wr.heap.size wr W25 := by rw [hW26]; exact bel_alloc (Below.refl _ _) _
                have BX1 := Lib.hid hb27
                have Nx := Lib.hid (show W25.heap[wr.heap.size]? = some (.cells #[.string xn, .string xb] 43 (0, 0)) by rw [hW26]; exact heap_at (wr) _ (wr.heap.size) (by simp))
                clear hW26
                have Z := Lib.hid (heap_below Bls.out hb27)
                clear Bls
                have Bls := Z
                clear Z
                have Z := Lib.hid (StAt.below NK.out hb27)
                clear NK
                have NK := Z
                clear Z
                have Z := Lib.hid (Row.below NR.out hb27)
                clear NR
                have NR := Z
                clear Z
                have BB28 := Lib.hid (bThen BBX.out hb27)
                clear hb27
                have Blx := Nx
                clear Nx
                have zs := blk_lt Bls.out
                have xs0 := cellsAt Bls.out 0
                have xs1 := cellsAt Bls.out 1
                have xs2 := cellsAt Bls.out 2
                have fs := frozAt Bls.out
                simp at xs0 xs1 xs2
                have zx := blk_lt Blx.out
                have xx0 := cellsAt Blx.out 0
                have xx1 := cellsAt Blx.out 1
                have fx := frozAt Blx.out
                simp at xx0 xx1
                go_wp2_with fail
                refine (HRD.out _ _ NK.out).mono ?_
                rintro e w29 ⟨rfl, hb30⟩
                have BX2 := Lib.hid hb30
                clear zs fs xs0 xs1 xs2 zx fx xx0 xx1
                have Z := Lib.hid (heap_below Bls.out hb30)
                clear Bls
                have Bls := Z
                clear Z
                have Z := Lib.hid (heap_below Blx.out hb30)
                clear Blx
                have Blx := Z
                clear Z
                have Z := Lib.hid (StAt.below NK.out hb30)
                clear NK
                have NK := Z
                clear Z
                have Z := Lib.hid (Row.below NR.out hb30)
                clear NR
                have NR := Z
                clear Z
                have BB31 := Lib.hid (bThen BB28.out hb30)
                clear hb30
                have zx := blk_lt Blx.out
                have xx0 := cellsAt Blx.out 0
                have xx1 := cellsAt Blx.out 1
                have fx := frozAt Blx.out
                simp at xx0 xx1
                go_wp2_with fail
                go_roundw
                case rel => exact ⟨q + 1, by omega, by go_num, bThen (bThen BQ.out BX1.out) BX2.out⟩
                case measure => simp [intOf]; omega
              · obtain rfl : q = m9 := by omega
                go_wp2_with fail
                go_roundw
                case rel => exact ⟨k + 1, (countL want l), A1a, n1a, c1a, A2a, n2a, c2a, by omega, by go_num, Bls.out, NK.out, NR.out, HRC.out, BBX.out⟩
                case measure => simp [intOf]; omega
          · have HA := Lib.hid (fun W v u h1 h2 => ans_of (HBA.out W v u h1 h2) hb)
            unfold AnsTo at HA
            rw [show zS.d = false from rfl] at HA
            clear hb HBA
            go_wp2_with fail
            refine (HA.out _ _ _ Kp.out Ku.out).mono ?_
            rintro e w9 ⟨A1a, n1a, c1a, A2a, n2a, c2a, rfl, hka, hb10⟩
            clear zs fs xs0 xs1 xs2 zt ft xt0 xt1
            have Z := Lib.hid (heap_below Bls.out hb10)
            clear Bls
            have Bls := Z
            clear Z
            have Z := Lib.hid (heap_below Blt.out hb10)
            clear Blt
            have Blt := Z
            clear Z
            have Z := Lib.hid (StAt.below Kp.out hb10)
            clear Kp
            have Kp := Z
            clear Z
            have Z := Lib.hid (Row.below RW.out hb10)
            clear RW
            have RW := Z
            clear Z
            have Z := Lib.hid (OkRow.below Ku.out hb10)
            clear Ku
            have Ku := Z
            clear Z
            have BB11 := Lib.hid (bThen BB8.out hb10)
            clear hb10
            have Ka := Lib.hid hka
            clear hka
            go_upto_region 8 with fail
            obtain ⟨W12, hW13⟩ : ∃ X, X = (w9).alloc (.cells #[.slice A1a n1a c1a, .slice A2a n2a c2a, .bool false] 24) := ⟨_, rfl⟩
            rw [← hW13]
            have hb14 : Below w9.heap.size w9 W12 := by rw [hW13]; exact bel_alloc (Below.refl _ _) _
            have Na := Lib.hid (show W12.heap[w9.heap.size]? = some (.cells #[.slice A1a n1a c1a, .slice A2a n2a c2a, .bool false] 24 (0, 0)) by rw [hW13]; exact heap_at (w9) _ (w9.heap.size) (by simp))
            clear hW13
            have Z := Lib.hid (heap_below Bls.out hb14)
            clear Bls
            have Bls := Z
            clear Z
            have Z := Lib.hid (heap_below Blt.out hb14)
            clear Blt
            have Blt := Z
            clear Z
            have Z := Lib.hid (StAt.below Kp.out hb14)
            clear Kp
            have Kp := Z
            clear Z
            have Z := Lib.hid (Row.below RW.out hb14)
            clear RW
            have RW := Z
            clear Z
            have Z := Lib.hid (OkRow.below Ku.out hb14)
            clear Ku
            have Ku := Z
            clear Z
            have Z := Lib.hid (StAt.below Ka.out hb14)
            clear Ka
            have Ka := Z
            clear Z
            have BB15 := Lib.hid (bThen BB11.out hb14)
            clear hb14
            have Bla := Na
            clear Na
            go_upto_region 16 with fail
            have HRS := Lib.hid (fun W (h : StAt W (.agg #[.slice A1 n1 c1, .slice A2 n2 c2, .bool false]) ⟨want, [], false⟩) => sright_any want [] false _ _ W h.rows.1 h.rows.2 true HRT.out)
            have hb64 : mw ≤ 64 := by rw [← Hmw.out]; exact (right_iff.1 HRT.out).len
            have zs := blk_lt Bls.out
            have xs0 := cellsAt Bls.out 0
            have xs1 := cellsAt Bls.out 1
            have xs2 := cellsAt Bls.out 2
            have fs := frozAt Bls.out
            simp at xs0 xs1 xs2
            go_wp2_with fail
            refine (HRS.out _ Kp.out).mono ?_
            rintro e w16 ⟨rfl, hb17⟩
            clear zs fs xs0 xs1 xs2
            have Z := Lib.hid (heap_below Bls.out hb17)
            clear Bls
            have Bls := Z
            clear Z
            have Z := Lib.hid (StAt.below Kp.out hb17)
            clear Kp
            have Kp := Z
            clear Z
            have Z := Lib.hid (Row.below RW.out hb17)
            clear RW
            have RW := Z
            clear Z
            have BB18 := Lib.hid (bThen BB15.out hb17)
            clear hb17
            have zs := blk_lt Bls.out
            have xs0 := cellsAt Bls.out 0
            have xs1 := cellsAt Bls.out 1
            have xs2 := cellsAt Bls.out 2
            have fs := frozAt Bls.out
            simp at xs0 xs1 xs2
            go_wp2_with fail
            refine (likeC_same (want) _ _ _ Kp.out.rows.1.1 RW.out Kp.out.rows.1.2.2).mono ?_
            rintro e w19 ⟨rfl, hb20⟩
            clear zs fs xs0 xs1 xs2
            have Z := Lib.hid (heap_below Bls.out hb20)
            clear Bls
            have Bls := Z
            clear Z
            have Z := Lib.hid (StAt.below Kp.out hb20)
            clear Kp
            have Kp := Z
            clear Z
            have Z := Lib.hid (Row.below RW.out hb20)
            clear RW
            have RW := Z
            clear Z
            have BB21 := Lib.hid (bThen BB18.out hb20)
            clear hb20
            go_wp2_with fail
            have BlsC := Bls
            have KC := Kp
            have RWC := RW
            have BBC := BB21
            go_loopw [69] (fun i wr => InRel w19 mw i wr) (fun i _ => mw - (intOf i).toNat)
            case atStart => exact ⟨0, Nat.zero_le _, rfl, Below.refl _ _⟩
            case round =>
              clear Bls Kp RW BB21
              obtain ⟨q, hq, rfl, hbq⟩ := hrel
              have BQ := Lib.hid hbq
              have Bls := Lib.hid (heap_below BlsC.out hbq)
              have Kp := Lib.hid (KC.out.below hbq)
              have RW := Lib.hid (RWC.out.below hbq)
              have BBX := Lib.hid (bThen BBC.out hbq)
              clear hbq
              by_cases hlq : q < mw
              · obtain ⟨x, hx⟩ : ∃ x, (want)[q]? = some x := ⟨_, List.getElem?_eq_getElem (by rw [Hmw.out]; exact hlq)⟩
                have HRD := Lib.hid (fun W v h => read_any ⟨want, [], false⟩ x.n v W h)
                unfold RdTo at HRD
                rw [read_in HRT.out (List.mem_of_getElem? hx)] at HRD
                obtain ⟨b6, o6, c7, e', hc', hb6, hX⟩ := RW.out.at_ hx
                injection e' with e1 e2 e3
                clear e2
                subst e1 e3
                have k0 := hX 0 _ rfl
                have k1 := hX 1 _ rfl
                clear hX hx
                simp only [Nat.add_zero] at k0 k1
                obtain ⟨xn, xb⟩ := x
                simp only at k0 k1 HRD
                go_upto_region 21 with fail
                clear k0 k1
                obtain ⟨W22, hW23⟩ : ∃ X, X = (wr).alloc (.cells #[.string xn, .string xb] 43) := ⟨_, rfl⟩
                rw [← hW23]
                have hb24 : Below wr.heap.size wr W22 := by rw [hW23]; exact bel_alloc (Below.refl _ _) _
                have BX1 := Lib.hid hb24
                have Nx := Lib.hid (show W22.heap[wr.heap.size]? = some (.cells #[.string xn, .string xb] 43 (0, 0)) by rw [hW23]; exact heap_at (wr) _ (wr.heap.size) (by simp))
                clear hW23
                have Z := Lib.hid (heap_below Bls.out hb24)
                clear Bls
                have Bls := Z
                clear Z
                have Z := Lib.hid (StAt.below Kp.out hb24)
                clear Kp
                have Kp := Z
                clear Z
                have Z := Lib.hid (Row.below RW.out hb24)
                clear RW
                have RW := Z
                clear Z
                have BB25 := Lib.hid (bThen BBX.out hb24)
                clear hb24
                have Blx := Nx
                clear Nx
                have zs := blk_lt Bls.out
                have xs0 := cellsAt Bls.out 0
                have xs1 := cellsAt Bls.out 1
                have xs2 := cellsAt Bls.out 2
                have fs := frozAt Bls.out
                simp at xs0 xs1 xs2
                have zx := blk_lt Blx.out
                have xx0 := cellsAt Blx.out 0
                have xx1 := cellsAt Blx.out 1
                have fx := frozAt Blx.out
                simp at xx0 xx1
                go_wp2_with fail
                refine (HRD.out _ _ Kp.out).mono ?_
                rintro e w26 ⟨rfl, hb27⟩
                have BX2 := Lib.hid hb27
                clear zs fs xs0 xs1 xs2 zx fx xx0 xx1
                have Z := Lib.hid (heap_below Bls.out hb27)
                clear Bls
                have Bls := Z
                clear Z
                have Z := Lib.hid (heap_below Blx.out hb27)
                clear Blx
                have Blx := Z
                clear Z
                have Z := Lib.hid (StAt.below Kp.out hb27)
                clear Kp
                have Kp := Z
                clear Z
                have Z := Lib.hid (Row.below RW.out hb27)
                clear RW
                have RW := Z
                clear Z
                have BB28 := Lib.hid (bThen BB25.out hb27)
                clear hb27
                have zx := blk_lt Blx.out
                have xx0 := cellsAt Blx.out 0
                have xx1 := cellsAt Blx.out 1
                have fx := frozAt Blx.out
                simp at xx0 xx1
                go_wp2_with fail
                go_roundw
                case rel => exact ⟨q + 1, by omega, by go_num, bThen (bThen BQ.out BX1.out) BX2.out⟩
                case measure => simp [intOf]; omega
              · obtain rfl : q = mw := by omega
                go_wp2_with fail
                go_roundw
                case rel => exact ⟨k + 1, want, A1, n1, c1, A2, n2, c2, by omega, by go_num, Bls.out, Kp.out, RW.out, HRT.out, BBX.out⟩
                case measure => simp [intOf]; omega
          · have HA := Lib.hid (fun W v u h1 h2 => ans_of (HBA.out W v u h1 h2) hb)
            unfold AnsTo at HA
            rw [show zS.d = false from rfl] at HA
            clear hb HBA
            go_wp2_with fail
            refine (HA.out _ _ _ Kp.out Ku.out).mono ?_
            rintro e w9 ⟨A1a, n1a, c1a, A2a, n2a, c2a, rfl, hka, hb10⟩
            clear zs fs xs0 xs1 xs2 zt ft xt0 xt1
            have Z := Lib.hid (heap_below Bls.out hb10)
            clear Bls
            have Bls := Z
            clear Z
            have Z := Lib.hid (heap_below Blt.out hb10)
            clear Blt
            have Blt := Z
            clear Z
            have Z := Lib.hid (StAt.below Kp.out hb10)
            clear Kp
            have Kp := Z
            clear Z
            have Z := Lib.hid (Row.below RW.out hb10)
            clear RW
            have RW := Z
            clear Z
            have Z := Lib.hid (OkRow.below Ku.out hb10)
            clear Ku
            have Ku := Z
            clear Z
            have BB11 := Lib.hid (bThen BB8.out hb10)
            clear hb10
            have Ka := Lib.hid hka
            clear hka
            go_upto_region 8 with fail
            obtain ⟨W12, hW13⟩ : ∃ X, X = (w9).alloc (.cells #[.slice A1a n1a c1a, .slice A2a n2a c2a, .bool false] 24) := ⟨_, rfl⟩
            rw [← hW13]
            have hb14 : Below w9.heap.size w9 W12 := by rw [hW13]; exact bel_alloc (Below.refl _ _) _
            have Na := Lib.hid (show W12.heap[w9.heap.size]? = some (.cells #[.slice A1a n1a c1a, .slice A2a n2a c2a, .bool false] 24 (0, 0)) by rw [hW13]; exact heap_at (w9) _ (w9.heap.size) (by simp))
            clear hW13
            have Z := Lib.hid (heap_below Bls.out hb14)
            clear Bls
            have Bls := Z
            clear Z
            have Z := Lib.hid (heap_below Blt.out hb14)
            clear Blt
            have Blt := Z
            clear Z
            have Z := Lib.hid (StAt.below Kp.out hb14)
            clear Kp
            have Kp := Z
            clear Z
            have Z := Lib.hid (Row.below RW.out hb14)
            clear RW
            have RW := Z
            clear Z
            have Z := Lib.hid (OkRow.below Ku.out hb14)
            clear Ku
            have Ku := Z
            clear Z
            have Z := Lib.hid (StAt.below Ka.out hb14)
            clear Ka
            have Ka := Z
            clear Z
            have BB15 := Lib.hid (bThen BB11.out hb14)
            clear hb14
            have Bla := Na
            clear Na
            go_upto_region 16 with fail
            have HRS := Lib.hid (fun W (h : StAt W (.agg #[.slice A1 n1 c1, .slice A2 n2 c2, .bool false]) ⟨want, [], false⟩) => sright_any want [] false _ _ W h.rows.1 h.rows.2 true HRT.out)
            have hb64 : mw ≤ 64 := by rw [← Hmw.out]; exact (right_iff.1 HRT.out).len
            have zs := blk_lt Bls.out
            have xs0 := cellsAt Bls.out 0
            have xs1 := cellsAt Bls.out 1
            have xs2 := cellsAt Bls.out 2
            have fs := frozAt Bls.out
            simp at xs0 xs1 xs2
            go_wp2_with fail
            refine (HRS.out _ Kp.out).mono ?_
            rintro e w16 ⟨rfl, hb17⟩
            clear zs fs xs0 xs1 xs2
            have Z := Lib.hid (heap_below Bls.out hb17)
            clear Bls
            have Bls := Z
            clear Z
            have Z := Lib.hid (StAt.below Kp.out hb17)
            clear Kp
            have Kp := Z
            clear Z
            have Z := Lib.hid (Row.below RW.out hb17)
            clear RW
            have RW := Z
            clear Z
            have BB18 := Lib.hid (bThen BB15.out hb17)
            clear hb17
            have zs := blk_lt Bls.out
            have xs0 := cellsAt Bls.out 0
            have xs1 := cellsAt Bls.out 1
            have xs2 := cellsAt Bls.out 2
            have fs := frozAt Bls.out
            simp at xs0 xs1 xs2
            go_wp2_with fail
            refine (likeC_same (want) _ _ _ Kp.out.rows.1.1 RW.out Kp.out.rows.1.2.2).mono ?_
            rintro e w19 ⟨rfl, hb20⟩
            clear zs fs xs0 xs1 xs2
            have Z := Lib.hid (heap_below Bls.out hb20)
            clear Bls
            have Bls := Z
            clear Z
            have Z := Lib.hid (StAt.below Kp.out hb20)
            clear Kp
            have Kp := Z
            clear Z
            have Z := Lib.hid (Row.below RW.out hb20)
            clear RW
            have RW := Z
            clear Z
            have BB21 := Lib.hid (bThen BB18.out hb20)
            clear hb20
            go_wp2_with fail
            have BlsC := Bls
            have KC := Kp
            have RWC := RW
            have BBC := BB21
            go_loopw [69] (fun i wr => InRel w19 mw i wr) (fun i _ => mw - (intOf i).toNat)
            case atStart => exact ⟨0, Nat.zero_le _, rfl, Below.refl _ _⟩
            case round =>
              clear Bls Kp RW BB21
              obtain ⟨q, hq, rfl, hbq⟩ := hrel
              have BQ := Lib.hid hbq
              have Bls := Lib.hid (heap_below BlsC.out hbq)
              have Kp := Lib.hid (KC.out.below hbq)
              have RW := Lib.hid (RWC.out.below hbq)
              have BBX := Lib.hid (bThen BBC.out hbq)
              clear hbq
              by_cases hlq : q < mw
              · obtain ⟨x, hx⟩ : ∃ x, (want)[q]? = some x := ⟨_, List.getElem?_eq_getElem (by rw [Hmw.out]; exact hlq)⟩
                have HRD := Lib.hid (fun W v h => read_any ⟨want, [], false⟩ x.n v W h)
                unfold RdTo at HRD
                rw [read_in HRT.out (List.mem_of_getElem? hx)] at HRD
                obtain ⟨b6, o6, c7, e', hc', hb6, hX⟩ := RW.out.at_ hx
                injection e' with e1 e2 e3
                clear e2
                subst e1 e3
                have k0 := hX 0 _ rfl
                have k1 := hX 1 _ rfl
                clear hX hx
                simp only [Nat.add_zero] at k0 k1
                obtain ⟨xn, xb⟩ := x
                simp only at k0 k1 HRD
                go_upto_region 21 with fail
                clear k0 k1
                obtain ⟨W22, hW23⟩ : ∃ X, X = (wr).alloc (.cells #[.string xn, .string xb] 43) := ⟨_, rfl⟩
                rw [← hW23]
                have hb24 : Below wr.heap.size wr W22 := by rw [hW23]; exact bel_alloc (Below.refl _ _) _
                have BX1 := Lib.hid hb24
                have Nx := Lib.hid (show W22.heap[wr.heap.size]? = some (.cells #[.string xn, .string xb] 43 (0, 0)) by rw [hW23]; exact heap_at (wr) _ (wr.heap.size) (by simp))
                clear hW23
                have Z := Lib.hid (heap_below Bls.out hb24)
                clear Bls
                have Bls := Z
                clear Z
                have Z := Lib.hid (StAt.below Kp.out hb24)
                clear Kp
                have Kp := Z
                clear Z
                have Z := Lib.hid (Row.below RW.out hb24)
                clear RW
                have RW := Z
                clear Z
                have BB25 := Lib.hid (bThen BBX.out hb24)
                clear hb24
                have Blx := Nx
                clear Nx
                have zs := blk_lt Bls.out
                have xs0 := cellsAt Bls.out 0
                have xs1 := cellsAt Bls.out 1
                have xs2 := cellsAt Bls.out 2
                have fs := frozAt Bls.out
                simp at xs0 xs1 xs2
                have zx := blk_lt Blx.out
                have xx0 := cellsAt Blx.out 0
                have xx1 := cellsAt Blx.out 1
                have fx := frozAt Blx.out
                simp at xx0 xx1
                go_wp2_with fail
                refine (HRD.out _ _ Kp.out).mono ?_
                rintro e w26 ⟨rfl, hb27⟩
                have BX2 := Lib.hid hb27
                clear zs fs xs0 xs1 xs2 zx fx xx0 xx1
                have Z := Lib.hid (heap_below Bls.out hb27)
                clear Bls
                have Bls := Z
                clear Z
                have Z := Lib.hid (heap_below Blx.out hb27)
                clear Blx
                have Blx := Z
                clear Z
                have Z := Lib.hid (StAt.below Kp.out hb27)
                clear Kp
                have Kp := Z
                clear Z
                have Z := Lib.hid (Row.below RW.out hb27)
                clear RW
                have RW := Z
                clear Z
                have BB28 := Lib.hid (bThen BB25.out hb27)
                clear hb27
                have zx := blk_lt Blx.out
                have xx0 := cellsAt Blx.out 0
                have xx1 := cellsAt Blx.out 1
                have fx := frozAt Blx.out
                simp at xx0 xx1
                go_wp2_with fail
                go_roundw
                case rel => exact ⟨q + 1, by omega, by go_num, bThen (bThen BQ.out BX1.out) BX2.out⟩
                case measure => simp [intOf]; omega
              · obtain rfl : q = mw := by omega
                go_wp2_with fail
                go_roundw
                case rel => exact ⟨k + 1, want, A1, n1, c1, A2, n2, c2, by omega, by go_num, Bls.out, Kp.out, RW.out, HRT.out, BBX.out⟩
                case measure => simp [intOf]; omega
    · go_wp2_with fail
      refine (alive_any _).mono ?_
      rintro e w5 ⟨rfl, hb6⟩
      have Z := Lib.hid (heap_below Bls.out hb6)
      clear Bls
      have Bls := Z
      clear Z
      have Z := Lib.hid (StAt.below Kp.out hb6)
      clear Kp
      have Kp := Z
      clear Z
      have Z := Lib.hid (Row.below RW.out hb6)
      clear RW
      have RW := Z
      clear Z
      have BB7 := Lib.hid (bThen BB0.out hb6)
      clear hb6
      go_wp2_with fail
      go_ret
      exact ⟨rfl, BB7.out⟩
end Go.Proofs.Ytlboehpgpbchhaa
