/-
  WALKS of layer 2: GetText of vlq and of the reference; the reference's Digits, Text, Folded; short.
-/
import Derived.Test.YtgpifbdjcoiilaaVlqW5
import Derived.Outline
namespace Go.Proofs.Ytgpifbdjcoiilaa
open Go.RowKit

/-- What GetText answers. -/
def gtR (s : ByteArray) (p : Int) : ByteArray × Int × Int :=
  match getR s.data.toList p with
  | (n, to, er) => if er ≠ 0 then (⟨#[]⟩, 0, er) else if 4096 < n then (⟨#[]⟩, 0, 2) else if (s.size : Int) < to + n then (⟨#[]⟩, 0, 20) else (s.extract to.toNat (to.toNat + n), to + n, 0)

theorem retS {x x' : ByteArray} {a b a' b' : Int} (h0 : x = x') (h1 : a = a') (h2 : b = b') : Ending.returned (.tuple #[.string x, .int .i64 a, .int .i64 b]) = .returned (.tuple #[.string x', .int .i64 a', .int .i64 b']) := by rw [h0, h1, h2]

set_option maxHeartbeats 1000000 in
set_option maxRecDepth 100000 in
theorem gett_any (s : ByteArray) (p : Int) (w : World) (x : ByteArray) (m e0 : Int) (hs : s.size ≤ 9223372036854775807) (hr : gtR s p = (x, m, e0)) :
    Calls Try.prog 27 #[.string s, .int .i64 p] w fun e w' => e = .returned (.tuple #[.string x, .int .i64 m, .int .i64 e0]) ∧ w = w' := by
  obtain ⟨⟨n, to, er⟩, hg⟩ : ∃ r, getR s.data.toList p = r := ⟨_, rfl⟩
  have hf := rdAt_facts hg (by decide)
  unfold gtR at hr
  rw [hg] at hr
  simp only at hr
  have Hg := Lib.hid hg
  clear hg
  rw [len_data] at hf
  by_cases h1 : er = 0
  · subst h1
    obtain ⟨_, hn, hto, hle, hp0⟩ : (0:Int) = 0 ∧ n ≤ 9223372036854775807 ∧ p < to ∧ to ≤ s.size ∧ 0 ≤ p := by
      rcases hf with h | h
      · exact h
      · omega
    obtain ⟨t, rfl⟩ := Int.eq_ofNat_of_zero_le (show 0 ≤ to by omega)
    rw [if_neg (by simp)] at hr
    by_cases h2 : 4096 < n
    · rw [if_pos h2] at hr
      simp only [Prod.mk.injEq] at hr
      obtain ⟨rfl, rfl, rfl⟩ := hr
      have h2' : (4096 : Int) < n := by omega
      have hn' : (n : Int) ≤ 9223372036854775807 := by omega
      clear hn h2 hf
      go_enter Try.func27, Try.ntmps27
      go_wp2_with fail
      refine (get_any s p _ n t 0 hs Hg.out).mono ?_
      rintro e w' ⟨rfl, rfl⟩
      go_wp2_with fail
      go_ret3
      exact ⟨rfl, rfl⟩
    · rw [if_neg h2] at hr
      clear hn
      by_cases h3 : (s.size : Int) < t + n
      · rw [if_pos h3] at hr
        simp only [Prod.mk.injEq] at hr
        obtain ⟨rfl, rfl, rfl⟩ := hr
        clear hf
        go_enter Try.func27, Try.ntmps27
        go_wp2_with fail
        refine (get_any s p _ n t 0 hs Hg.out).mono ?_
        rintro e w' ⟨rfl, rfl⟩
        go_wp2_with fail
        go_ret3
        exact ⟨rfl, rfl⟩
      · rw [if_neg h3] at hr
        simp only [Prod.mk.injEq] at hr
        obtain ⟨rfl, rfl, rfl⟩ := hr
        clear hf
        go_enter Try.func27, Try.ntmps27
        go_wp2_with fail
        refine (get_any s p _ n t 0 hs Hg.out).mono ?_
        rintro e w' ⟨rfl, rfl⟩
        go_wp2_with fail
        go_ret3
        exact ⟨retS rfl rfl rfl, rfl⟩
  · rw [if_pos h1] at hr
    simp only [Prod.mk.injEq] at hr
    obtain ⟨rfl, rfl, rfl⟩ := hr
    have hb : (er == 0) = false := by simpa using h1
    clear hf h1
    go_enter Try.func27, Try.ntmps27
    go_wp2_with fail
    refine (get_any s p _ n to er hs Hg.out).mono ?_
    rintro e w' ⟨rfl, rfl⟩
    go_wp2_with fail
    go_ret3
    exact ⟨rfl, rfl⟩
set_option maxHeartbeats 1000000 in
set_option maxRecDepth 100000 in
theorem rgett_any (s : ByteArray) (p : Int) (w : World) (x : ByteArray) (m e0 : Int) (hs : s.size ≤ 140737488355328) (hr : gtR s p = (x, m, e0)) :
    Calls Try.prog 30 #[.string s, .int .i64 p] w fun e w' => e = .returned (.tuple #[.string x, .int .i64 m, .int .i64 e0]) ∧ w = w' := by
  obtain ⟨⟨n, to, er⟩, hg⟩ : ∃ r, getR s.data.toList p = r := ⟨_, rfl⟩
  have hf := rdAt_facts hg (by decide)
  unfold gtR at hr
  rw [hg] at hr
  simp only at hr
  have Hg := Lib.hid hg
  clear hg
  rw [len_data] at hf
  by_cases h1 : er = 0
  · subst h1
    obtain ⟨_, hn, hto, hle, hp0⟩ : (0:Int) = 0 ∧ n ≤ 9223372036854775807 ∧ p < to ∧ to ≤ s.size ∧ 0 ≤ p := by
      rcases hf with h | h
      · exact h
      · omega
    obtain ⟨t, rfl⟩ := Int.eq_ofNat_of_zero_le (show 0 ≤ to by omega)
    rw [if_neg (by simp)] at hr
    by_cases h2 : 4096 < n
    · rw [if_pos h2] at hr
      simp only [Prod.mk.injEq] at hr
      obtain ⟨rfl, rfl, rfl⟩ := hr
      have h2' : (4096 : Int) < n := by omega
      have hn' : (n : Int) ≤ 9223372036854775807 := by omega
      clear hn h2 hf
      go_enter Try.func30, Try.ntmps30
      go_wp2_with fail
      refine (rget_any s p _ n t 0 (by omega) Hg.out).mono ?_
      rintro e w' ⟨rfl, rfl⟩
      go_wp2_with fail
      go_ret3
      exact ⟨rfl, rfl⟩
    · rw [if_neg h2] at hr
      clear hn
      by_cases h3 : (s.size : Int) < t + n
      · rw [if_pos h3] at hr
        simp only [Prod.mk.injEq] at hr
        obtain ⟨rfl, rfl, rfl⟩ := hr
        clear hf
        go_enter Try.func30, Try.ntmps30
        go_wp2_with fail
        refine (rget_any s p _ n t 0 (by omega) Hg.out).mono ?_
        rintro e w' ⟨rfl, rfl⟩
        go_wp2_with fail
        go_ret3
        exact ⟨rfl, rfl⟩
      · rw [if_neg h3] at hr
        simp only [Prod.mk.injEq] at hr
        obtain ⟨rfl, rfl, rfl⟩ := hr
        clear hf
        go_enter Try.func30, Try.ntmps30
        go_wp2_with fail
        refine (rget_any s p _ n t 0 (by omega) Hg.out).mono ?_
        rintro e w' ⟨rfl, rfl⟩
        go_wp2_with fail
        go_ret3
        exact ⟨retS rfl rfl rfl, rfl⟩
  · rw [if_pos h1] at hr
    simp only [Prod.mk.injEq] at hr
    obtain ⟨rfl, rfl, rfl⟩ := hr
    have hb : (er == 0) = false := by simpa using h1
    clear hf h1
    go_enter Try.func30, Try.ntmps30
    go_wp2_with fail
    refine (rget_any s p _ n to er (by omega) Hg.out).mono ?_
    rintro e w' ⟨rfl, rfl⟩
    go_wp2_with fail
    go_ret3
    exact ⟨rfl, rfl⟩

/-- What a byte slice of the call's own holds, as a string. -/
theorem conv_own (w : World) (B g cap n : Nat) (l : List UInt8) (hn : n = l.length) (h : w.ownsRow B 5 1 (.slice (some ⟨g, 0, none⟩) n cap) n (Lib.byteCells l)) :
    (convert 48 9 (.slice (some ⟨g, 0, none⟩) n cap)).run Try.prog w = .ok (.string ⟨l.toArray⟩) w := by
  subst hn
  refine run_convert_bytes_back w 48 9 5 ⟨g, 0, none⟩ cap l Try.underlying48 Try.underlying5 Try.underlying9 ?_
  intro j hj
  have hc := h.cellAt j (by omega)
  rw [show (⟨g, 0, none⟩ : Addr).add j = ⟨g, j, none⟩ by cases j <;> simp [Addr.add], hc]
  simp [Lib.byteCells, hj]

/-- What holds at the head of the loop of Digits. -/
def DgRel (N B : Nat) (w0 : World) (m v : Value) (wr : World) : Prop :=
  ∃ (j g cap : Nat), j ≤ cnt N ∧ m = .int .u64 ((N / 128 ^ (j + 1) : Nat) : Int) ∧ v = .slice (some ⟨g, 0, none⟩) (j + 1) cap ∧ wr.ownsRow B 5 1 (.slice (some ⟨g, 0, none⟩) (j + 1) cap) (j + 1) (Lib.byteCells (ups N j ++ [lowd N])) ∧ Below B w0 wr

set_option maxHeartbeats 1000000 in
set_option maxRecDepth 100000 in
theorem digits_any (n : Int) (w : World) (h0 : 0 ≤ n) (h1 : n < 18446744073709551616) :
    Calls Try.prog 31 #[.int .u64 n] w fun e w' => e = .returned (.string (digS n.toNat)) ∧ Below w.heap.size w w' := by
  obtain ⟨i0, hi, hz0, hz1, hz2⟩ := info_parts info_u8
  have hn : n.toNat < 18446744073709551616 := by omega
  have hc9 := cnt_le hn
  obtain ⟨N, hN⟩ : ∃ N, N = n.toNat := ⟨_, rfl⟩
  rw [← hN] at hc9 hn ⊢
  have HN := Lib.hid hN
  have Hn := Lib.hid hn
  clear hn hN
  go_enter Try.func31, Try.ntmps31
  go_wp2_with fail
  go_loopw [0, 3] (fun m v wr => DgRel N w.heap.size w m v wr) (fun m _ _ => (intOf m).toNat)
  case atStart =>
    refine ⟨0, w.heap.size, 1, Nat.zero_le _, congrArg (Value.int .u64) (by have := HN.out; simp; omega), rfl, ?_, (Below.refl _ _).alloc (Nat.le_refl _) _⟩
    have := World.ownsRow_lit (base := w.heap.size) (e := 5) (size := 1) w #[Value.int IntKind.u8 (n % 128)] 1 (Nat.le_refl _) (by decide) rfl
    have e : n % 128 = ((lowd N).toNat : Int) := by rw [lowd, u8_ofNat_toNat (by omega)]; have := HN.out; omega
    rw [e] at this ⊢
    exact this
  case round =>
    obtain ⟨j, g, cap, hj, rfl, rfl, hown, hbel⟩ := hrel
    obtain ⟨M, hM⟩ : ∃ M : Int, M = ((N / 128 ^ (j + 1) : Nat) : Int) := ⟨_, rfl⟩
    have hM1 : M < 18446744073709551616 := by
      have := Nat.div_le_self N (128 ^ (j + 1)); have := Hn.out; omega
    have hM0 : 0 ≤ M := by rw [hM]; exact Int.natCast_nonneg _
    rw [← hM]
    have HM := Lib.hid hM
    clear hM
    have hsz := hbel.size
    by_cases hp : 0 < M
    · have hnew := World.ownsRow_lit (base := w.heap.size) (e := 5) (size := 1) wr #[Value.int IntKind.u8 (M % 128 + 128)] 1 hsz (by decide) rfl
      have hsrc := (hown.alloc (Obj.cells #[Value.int IntKind.u8 (M % 128 + 128)] 5)).cells (g := g) rfl
      have hlen : (Lib.byteCells (ups N j ++ [lowd N])).length = j + 1 := by simp [byteCells_len, ups_length]
      have hb : ∀ u ∈ Lib.byteCells (ups N j ++ [lowd N]), u.oneCell' = true := fun u hu => by
        simp only [Lib.byteCells, List.mem_map] at hu
        obtain ⟨x, _, rfl⟩ := hu
        rfl
      have HH := Lib.hid (And.intro hnew (And.intro hsrc (And.intro hlen hb)))
      have Hown := Lib.hid hown
      clear hnew hsrc hlen hb hown
      go_wp2_with (at_builtin; refine wpList_append_own _ rfl _ _ 48 rfl w.heap.size 5 i0 (.int .u8 0) 1 1 Try.underlying48 hi hz0 hz1 hz2 rfl (by decide) _ _ _ rfl HH.out.1 ⟨g, 0, none⟩ (j + 1) cap _ rfl (by rw [HH.out.2.2.1]; omega) HH.out.2.1 HH.out.2.2.2 ?c3 ?c4 ?c5 ?_)
      case c3 => unfold maxLen; omega
      case c4 => omega
      case c5 => first | omega | (simp; omega)
      intro v' w2 hown' hgrow _
      obtain ⟨g2, cap2, rfl⟩ : ∃ g cap, v' = .slice (some ⟨g, 0, none⟩) (1 + (j + 1)) cap := by
        rcases hown'.2 with ⟨_, h0⟩ | ⟨g, cap, cur, hv, _⟩
        · omega
        · exact ⟨g, cap, hv⟩
      have Hown' := Lib.hid hown'
      have Hgrow := Lib.hid hgrow
      clear hown' hgrow
      go_wp2_with fail
      go_roundw
      case rel =>
        have hd : M / 128 = ((N / 128 ^ (j + 1 + 1) : Nat) : Int) := by rw [HM.out, div_pow_succ' N (j + 1)]; rfl
        have hpos : j + 1 ≤ cnt N := by
          have a := cnt_iff Hn.out j
          have h2 := HM.out
          rw [div_pow_succ'] at h2
          have : ¬ N / 128 ^ j < 128 := by
            intro hlt; rw [Nat.div_eq_of_lt hlt] at h2; omega
          rw [a] at this; omega
        have hbyte : M % 128 + 128 = ((UInt8.ofNat (N / 128 ^ (j + 1) % 128 + 128)).toNat : Int) := by
          rw [u8_ofNat_toNat (by omega), HM.out]; rfl
        refine ⟨j + 1, g2, cap2, hpos, congrArg (Value.int .u64) hd, by rw [show 1 + (j + 1) = j + 1 + 1 by omega], ?_, ?_⟩
        · have := Hown'.out
          rw [show 1 + (j + 1) = j + 1 + 1 by omega, hbyte] at this
          exact this
        · exact (hbel.alloc hsz _).grown Hgrow.out (by simp; omega) (fun k hk => by simp [Value.ownBlock] at hk; omega)
      case measure => simp [intOf]; omega
    · have hcv := conv_own wr w.heap.size g cap (j + 1) (ups N j ++ [lowd N]) (by simp [ups_length]) hown
      go_wp2_with fail
      go_ret
      refine ⟨?_, hbel⟩
      have e : digS N = ⟨(ups N j ++ [lowd N]).toArray⟩ := by
        unfold digS
        have a := cnt_iff Hn.out j
        have : j = cnt N := by
          have : N / 128 ^ j < 128 := by
            have h2 := HM.out
            rw [div_pow_succ'] at h2
            omega
          omega
        rw [dig, this]
      rw [e]
      rfl
end Go.Proofs.Ytgpifbdjcoiilaa
