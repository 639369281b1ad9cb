/-
  PLAIN LAWS OF LAYER 2 (vlq): numbers as digits to the base of 128, the highest first; how they are read back. No program in sight.
-/
import Derived.Lib.Walk
set_option linter.unusedVariables false
set_option linter.unusedSimpArgs false
namespace Go.Proofs.YtlboehpgpbchhaaGreat

/-- How many digits stand ahead of the last one (with fuel). -/
def cntF : Nat → Nat → Nat
  | 0, _ => 0
  | f + 1, n => if n < 128 then 0 else cntF f (n / 128) + 1
def cnt (n : Nat) : Nat := cntF 10 n

/-- The digits k down to 1, each with its mark. -/
def ups (n : Nat) : Nat → List UInt8
  | 0 => []
  | k + 1 => UInt8.ofNat (n / 128 ^ (k + 1) % 128 + 128) :: ups n k
def lowd (n : Nat) : UInt8 := UInt8.ofNat (n % 128)
/-- A number's bytes. -/
def dig (n : Nat) : List UInt8 := ups n (cnt n) ++ [lowd n]

theorem ups_length (n : Nat) : ∀ k, (ups n k).length = k
  | 0 => rfl
  | k + 1 => by simp [ups, ups_length n k]
theorem dig_length (n : Nat) : (dig n).length = cnt n + 1 := by simp [dig, ups_length]

theorem div_pow_succ (n k : Nat) : n / 128 ^ (k + 1) = n / 128 / 128 ^ k := by
  rw [Nat.pow_succ, Nat.mul_comm, Nat.div_div_eq_div_mul]
theorem div_pow_succ' (n k : Nat) : n / 128 ^ (k + 1) = n / 128 ^ k / 128 := by
  rw [Nat.pow_succ, Nat.div_div_eq_div_mul]

theorem cntF_iff : ∀ (f n : Nat), n < 128 ^ (f + 1) → ∀ k, n / 128 ^ k < 128 ↔ cntF f n ≤ k
  | 0, n, h, k => by
    have : n / 128 ^ k ≤ n := Nat.div_le_self _ _
    simp [cntF]; omega
  | f + 1, n, h, k => by
    unfold cntF
    by_cases hn : n < 128
    · have : n / 128 ^ k ≤ n := Nat.div_le_self _ _
      simp [hn]; omega
    · rw [if_neg hn]
      match k with
      | 0 => simp; omega
      | k + 1 =>
        rw [div_pow_succ, cntF_iff f (n / 128) (by rw [Nat.div_lt_iff_lt_mul (by decide)]; rw [Nat.pow_succ] at h; exact h) k]
        omega

theorem cnt_iff {n : Nat} (h : n < 18446744073709551616) (k : Nat) : n / 128 ^ k < 128 ↔ cnt n ≤ k :=
  cntF_iff 10 n (Nat.lt_of_lt_of_le h (by decide)) k

theorem cnt_le {n : Nat} (h : n < 18446744073709551616) : cnt n ≤ 9 := by
  rw [← cnt_iff h]
  exact Nat.lt_of_le_of_lt (Nat.div_le_div_right (Nat.le_of_lt h)) (by decide)

theorem pow7 (k : Nat) : 2 ^ (7 * k) = 128 ^ k := by rw [Nat.pow_mul]
theorem pow7i (k : Nat) : (2 : Int) ^ (7 * k) = ((128 ^ k : Nat) : Int) := by
  rw [← pow7]; push_cast; rfl
theorem div7 (n k : Nat) : (n : Int) / 2 ^ (7 * k) = ((n / 128 ^ k : Nat) : Int) := by
  rw [pow7i]; rfl

/-- dig is the digits at any count that fits. -/
theorem dig_of {n m : Nat} (h : n < 18446744073709551616) (h1 : n / 128 ^ m < 128) (h2 : m = 0 ∨ n / 128 ^ m ≠ 0) : dig n = ups n m ++ [lowd n] := by
  have hc : cnt n = m := by
    have a := (cnt_iff h m).1 h1
    rcases h2 with rfl | h2
    · omega
    · match m, h1, h2, a with
      | 0, _, _, a => omega
      | m + 1, h1, h2, a =>
        have b := cnt_iff h m
        rw [div_pow_succ'] at h2
        have : ¬ n / 128 ^ m < 128 := by
          intro hlt; exact h2 (Nat.div_eq_of_lt hlt)
        rw [b] at this; omega
  unfold dig; rw [hc]

theorem cnt_pos {n : Nat} (h : n < 18446744073709551616) (hc : cnt n ≠ 0) : n / 128 ^ cnt n ≠ 0 := by
  obtain ⟨m, hm⟩ : ∃ m, cnt n = m + 1 := ⟨cnt n - 1, by omega⟩
  have b := cnt_iff h m
  rw [hm, div_pow_succ']
  have : ¬ n / 128 ^ m < 128 := by rw [b]; omega
  intro h0
  have := Nat.div_eq_zero_iff.1 h0
  omega

/-! ### Reading -/

/-- What is read of bytes, from an accumulated number and a count of bytes on: (number, count, errno). -/
def rd (most : Nat) : List UInt8 → Nat → Nat → Nat × Nat × Int
  | [], _, _ => (0, 0, 20)
  | c :: t, n, k =>
    if (k = 0 ∧ c.toNat = 128) ∨ most < n * 128 + c.toNat % 128 then (0, 0, 21)
    else if c.toNat < 128 then (n * 128 + c.toNat % 128, k + 1, 0)
    else rd most t (n * 128 + c.toNat % 128) (k + 1)

/-- A number at a place: it, the place behind, the errno. -/
def rdAt (most : Nat) (s : List UInt8) (at_ : Int) : Nat × Int × Int :=
  if at_ < 0 ∨ (s.length : Int) < at_ then (0, 0, 1)
  else match rd most (s.drop at_.toNat) 0 0 with
    | (n, k, e) => if e = 0 then (n, at_ + k, 0) else (0, 0, e)

theorem rd_err (most : Nat) : ∀ (l : List UInt8) (n k : Nat), (rd most l n k).2.2 = 0 ∨ (rd most l n k) = (0, 0, 20) ∨ (rd most l n k) = (0, 0, 21)
  | [], _, _ => by simp [rd]
  | c :: t, n, k => by
    unfold rd
    split
    · simp
    · split
      · simp
      · exact rd_err most t _ _

theorem u8_ofNat_toNat {n : Nat} (h : n < 256) : (UInt8.ofNat n).toNat = n := by
  simp [UInt8.toNat_ofNat']; omega

theorem rd_back (most : Nat) (n : Nat) (hm : n ≤ most) (rest : List UInt8) : ∀ (k a j : Nat), n / 128 ^ (k + 1) = a → (j = 0 → k = 0 ∨ n / 128 ^ k % 128 ≠ 0) →
    rd most (ups n k ++ lowd n :: rest) a j = (n, j + k + 1, 0)
  | 0, a, j, ha, _ => by
    have hl : (lowd n).toNat = n % 128 := u8_ofNat_toNat (by omega)
    simp only [ups, List.nil_append, rd, hl]
    simp only [Nat.zero_add, Nat.pow_one] at ha
    rw [if_neg (by omega), if_pos (by omega)]
    simp; omega
  | k + 1, a, j, ha, hj => by
    have hl : (UInt8.ofNat (n / 128 ^ (k + 1) % 128 + 128)).toNat = n / 128 ^ (k + 1) % 128 + 128 := u8_ofNat_toNat (by omega)
    have hd := div_pow_succ' n (k + 1)
    have hle : n / 128 ^ (k + 1) ≤ n := Nat.div_le_self _ _
    simp only [ups, List.cons_append, rd, hl]
    rw [if_neg (by omega), if_neg (by omega), rd_back most n hm rest k _ (j + 1) (by omega) (by omega)]
    simp; omega

theorem rd_dig (most : Nat) {n : Nat} (h : n < 18446744073709551616) (hm : n ≤ most) (rest : List UInt8) : rd most (dig n ++ rest) 0 0 = (n, (dig n).length, 0) := by
  have a := (cnt_iff h (cnt n)).2 (Nat.le_refl _)
  have b := cnt_pos h
  unfold dig
  rw [List.append_assoc]
  have := rd_back most n hm rest (cnt n) 0 0 (by rw [div_pow_succ']; exact Nat.div_eq_of_lt a) (fun _ => by
    by_cases h0 : cnt n = 0
    · exact Or.inl h0
    · right; have := b h0; generalize n / 128 ^ cnt n = q at *; omega)
  simp only [List.singleton_append, this, List.length_append, ups_length, List.length_singleton]
  simp

theorem rd_once (most : Nat) : ∀ (l : List UInt8) (a j n k : Nat), rd most l a j = (n, k, 0) → ∃ m, k = j + m + 1 ∧ k ≤ j + l.length ∧ l.take (m + 1) = ups n m ++ [lowd n] ∧ n / 128 ^ (m + 1) = a ∧ n ≤ most ∧ (j = 0 → m = 0 ∨ n / 128 ^ m % 128 ≠ 0)
  | [], a, j, n, k, h => by simp [rd] at h
  | c :: t, a, j, n, k, h => by
    unfold rd at h
    have hc := c.toNat_lt
    by_cases h1 : (j = 0 ∧ c.toNat = 128) ∨ most < a * 128 + c.toNat % 128
    · rw [if_pos h1] at h; simp at h
    · rw [if_neg h1] at h
      by_cases h2 : c.toNat < 128
      · rw [if_pos h2] at h
        simp only [Prod.mk.injEq] at h
        obtain ⟨h3, rfl, _⟩ := h
        refine ⟨0, rfl, by simp, ?_, ?_, ?_, fun _ => Or.inl rfl⟩
        · simp only [Nat.zero_add, ups, List.nil_append, List.take_succ_cons, List.take_zero, List.cons.injEq, and_true]
          apply UInt8.toNat_inj.1
          rw [lowd, u8_ofNat_toNat (by omega)]; omega
        · simp; omega
        · omega
      · rw [if_neg h2] at h
        obtain ⟨m, hk, hle, ht, hd, hm, hz⟩ := rd_once most t _ _ _ _ h
        have hd' := div_pow_succ' n (m + 1)
        refine ⟨m + 1, by omega, by simp; omega, ?_, ?_, hm, ?_⟩
        · rw [List.take_succ_cons, ht]
          simp only [ups, List.cons_append, List.cons.injEq, and_true]
          apply UInt8.toNat_inj.1
          rw [u8_ofNat_toNat (by omega), hd]; omega
        · omega
        · intro hj; right; rw [hd]; omega

/-- What is read is just a number's bytes. -/
theorem rd_is_dig {most : Nat} (hmost : most < 18446744073709551616) {l : List UInt8} {n k : Nat} (h : rd most l 0 0 = (n, k, 0)) : l.take k = dig n ∧ k = (dig n).length ∧ k ≤ l.length ∧ n ≤ most := by
  obtain ⟨m, rfl, hle, ht, hd, hm, hz⟩ := rd_once most l 0 0 n k h
  have hd' := div_pow_succ' n m
  have e : dig n = ups n m ++ [lowd n] := dig_of (by omega) (by omega) (by have := hz rfl; omega)
  rw [e]
  refine ⟨by simpa using ht, by simp [ups_length], by omega, hm⟩

/-- Bytes of a number that are cut off end too early. -/
theorem rd_cut (most : Nat) (n : Nat) (hm : n ≤ most) : ∀ (k a j at_ : Nat), n / 128 ^ (k + 1) = a → (j = 0 → k = 0 ∨ n / 128 ^ k % 128 ≠ 0) → at_ ≤ k →
    rd most ((ups n k ++ [lowd n]).take at_) a j = (0, 0, 20)
  | _, a, j, 0, _, _, _ => by simp [rd]
  | 0, a, j, at_ + 1, _, _, h => by omega
  | k + 1, a, j, at_ + 1, ha, hj, h => by
    have hl : (UInt8.ofNat (n / 128 ^ (k + 1) % 128 + 128)).toNat = n / 128 ^ (k + 1) % 128 + 128 := u8_ofNat_toNat (by omega)
    have hd := div_pow_succ' n (k + 1)
    have hle : n / 128 ^ (k + 1) ≤ n := Nat.div_le_self _ _
    simp only [ups, List.cons_append, List.take_succ_cons, rd, hl]
    rw [if_neg (by omega), if_neg (by omega)]
    exact rd_cut most n hm k _ (j + 1) at_ (by omega) (by omega) (by omega)

theorem rd_dig_cut (most : Nat) {n : Nat} (h : n < 18446744073709551616) (hm : n ≤ most) {at_ : Nat} (ha : at_ < (dig n).length) : rd most ((dig n).take at_) 0 0 = (0, 0, 20) := by
  have a := (cnt_iff h (cnt n)).2 (Nat.le_refl _)
  have b := cnt_pos h
  rw [dig_length] at ha
  exact rd_cut most n hm (cnt n) 0 0 at_ (by rw [div_pow_succ']; exact Nat.div_eq_of_lt a) (fun _ => by
    by_cases h0 : cnt n = 0
    · exact Or.inl h0
    · right; have := b h0; generalize n / 128 ^ cnt n = q at *; omega) (by omega)

theorem cnt_mono {a b : Nat} (hb : b < 18446744073709551616) (h : a ≤ b) : cnt a ≤ cnt b := by
  rw [← cnt_iff (by omega)]
  have := (cnt_iff hb (cnt b)).2 (Nat.le_refl _)
  exact Nat.lt_of_le_of_lt (Nat.div_le_div_right h) this
end Go.Proofs.YtlboehpgpbchhaaGreat
