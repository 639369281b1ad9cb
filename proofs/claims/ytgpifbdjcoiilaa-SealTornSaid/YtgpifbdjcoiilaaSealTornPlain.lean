/-
  PLAIN LAWS OF LAYER 3 (seal): a burst of at most 32 bits that stand one behind the other is told by the sum. No program in sight.
-/
import Derived.Test.YtgpifbdjcoiilaaSealPlain
namespace Go.Proofs.Ytgpifbdjcoiilaa

def bitsB (c : Nat) : List Nat := [c / 128 % 2, c / 64 % 2, c / 32 % 2, c / 16 % 2, c / 8 % 2, c / 4 % 2, c / 2 % 2, c % 2]
def bitsL : List UInt8 → List Nat
  | [] => []
  | c :: t => bitsB c.toNat ++ bitsL t
theorem bitsB_len (c : Nat) : (bitsB c).length = 8 := rfl
theorem bitsL_len (l : List UInt8) : (bitsL l).length = 8 * l.length := by
  induction l with
  | nil => rfl
  | cons c t ih => simp only [bitsL, List.length_append, bitsB_len, ih, List.length_cons]; omega
theorem bitsL_lt (l : List UInt8) : ∀ b ∈ bitsL l, b < 2 := by
  induction l with
  | nil => simp [bitsL]
  | cons c t ih =>
    intro b hb
    simp only [bitsL, List.mem_append] at hb
    rcases hb with hb | hb
    · simp only [bitsB, List.mem_cons, List.not_mem_nil, or_false] at hb; omega
    · exact ih b hb
theorem crcB_bits (r c : Nat) : crcB r c = (bitsB c).foldl stp r := by
  simp [crcB, steps, bitsB]
theorem crcL_bits (l : List UInt8) : ∀ r, crcL r l = (bitsL l).foldl stp r := by
  induction l with
  | nil => intro r; rfl
  | cons c t ih => intro r; rw [crcL, bitsL, List.foldl_append, ih, crcB_bits]

/-- The register, two rows of bits at once. -/
theorem fold_xor : ∀ (e d : List Nat) (r x : Nat), e.length = d.length → (∀ b ∈ e, b < 2) → (∀ b ∈ d, b < 2) → r < 4294967296 → x < 4294967296 →
    (List.zipWith (· ^^^ ·) e d).foldl stp (r ^^^ x) = e.foldl stp r ^^^ d.foldl stp x
  | [], [], r, x, _, _, _, _, _ => by simp
  | [], _ :: _, _, _, h, _, _, _, _ => by simp at h
  | _ :: _, [], _, _, h, _, _, _, _ => by simp at h
  | b :: e, c :: d, r, x, h, hb, hc, hr, hx => by
    simp only [List.zipWith_cons_cons, List.foldl_cons]
    rw [stp_xor hr hx b c (hb b (by simp)) (hc c (by simp))]
    exact fold_xor e d _ _ (by simpa using h) (fun y hy => hb y (by simp [hy])) (fun y hy => hc y (by simp [hy])) (stp_lt _ _) (stp_lt _ _)

theorem fold_lt : ∀ (e : List Nat) (r : Nat), r < 4294967296 → e.foldl stp r < 4294967296
  | [], _, h => h
  | _ :: e, _, _ => fold_lt e _ (stp_lt _ _)

/-- Bits as the highest ones of a register. -/
def valB : List Nat → Nat
  | [] => 0
  | b :: w => b * 2147483648 + valB w / 2

theorem poly_odd (a : Nat) (h : a % 2 = 0) : (a ^^^ 79764919) % 2 = 1 := by
  have := Nat.xor_mod_two_pow (a := a) (b := 79764919) (n := 1)
  simp only [Nat.pow_one] at this
  rw [this, h]; decide

theorem valB_mod : ∀ (w : List Nat) (m : Nat), w.length + m ≤ 32 → valB w % 2 ^ m = 0
  | [], m, _ => by simp [valB]
  | b :: w, m, h => by
    have ih := valB_mod w (m + 1) (by simp at h; omega)
    have hm : m ≤ 31 := by simp at h; omega
    have h1 : 2147483648 % 2 ^ m = 0 := by
      rw [show (2147483648 : Nat) = 2 ^ m * 2 ^ (31 - m) by rw [← Nat.pow_add, show m + (31 - m) = 31 by omega]]
      exact Nat.mul_mod_right _ _
    have h2 : valB w / 2 % 2 ^ m = 0 := by
      obtain ⟨q, hq⟩ := Nat.dvd_of_mod_eq_zero ih
      rw [hq, Nat.pow_succ, Nat.mul_assoc, Nat.mul_comm 2 q, ← Nat.mul_assoc, Nat.mul_div_cancel _ (by decide)]
      exact Nat.mul_mod_right _ _
    simp only [valB]
    rw [Nat.add_mod, h2, Nat.mul_mod, h1]; simp

/-- A register that comes to nothing by at most 32 bits held just these. -/
theorem fold_zero : ∀ (w : List Nat) (r : Nat), w.length ≤ 32 → (∀ b ∈ w, b < 2) → r < 4294967296 → w.foldl stp r = 0 → r = valB w
  | [], r, _, _, _, h => h
  | b :: w, r, hl, hb, hr, h => by
    have ih := fold_zero w (stp r b) (by simp at hl; omega) (fun y hy => hb y (by simp [hy])) (stp_lt _ _) h
    have hm := valB_mod w 1 (by simp at hl; omega)
    simp only [Nat.pow_one] at hm
    have hb2 : b < 2 := hb b (by simp)
    by_cases ht : r / 2147483648 = b
    · rw [xor_zero_of r b ht] at ih
      simp only [valB]; omega
    · unfold stp at ih
      rw [if_neg ht] at ih
      have := poly_odd (r * 2 % 4294967296) (by omega)
      omega

theorem valB_zero : ∀ (w : List Nat), w.length ≤ 32 → (∀ b ∈ w, b < 2) → valB w = 0 → ∀ b ∈ w, b = 0
  | [], _, _, _ => by simp
  | b :: w, hl, hb, h => by
    simp only [valB] at h
    have hm := valB_mod w 1 (by simp at hl; omega)
    simp only [Nat.pow_one] at hm
    intro c hc
    rcases List.mem_cons.1 hc with rfl | hc
    · omega
    · exact valB_zero w (by simp at hl; omega) (fun y hy => hb y (by simp [hy])) (by omega) c hc

theorem stp_zero : stp 0 0 = 0 := by decide
theorem fold_zeros : ∀ (z : List Nat), (∀ b ∈ z, b = 0) → z.foldl stp 0 = 0
  | [], _ => rfl
  | b :: z, h => by
    have : b = 0 := h b (by simp)
    subst this
    simp only [List.foldl_cons, stp_zero]
    exact fold_zeros z (fun y hy => h y (by simp [hy]))
/-- Bits that are nothing leave nothing as it was alone. -/
theorem fold_zeros_back : ∀ (z : List Nat) (r : Nat), (∀ b ∈ z, b = 0) → r < 4294967296 → z.foldl stp r = 0 → r = 0
  | [], r, _, _, h => h
  | b :: z, r, hz, hr, h => by
    have hb : b = 0 := hz b (by simp)
    subst hb
    have ih := fold_zeros_back z (stp r 0) (fun y hy => hz y (by simp [hy])) (stp_lt _ _) h
    have := fold_zero [0] r (by simp) (by simp) hr (by simpa using ih)
    simpa [valB] using this

/-- THE BURST: bits that are something within 32 alone, and come to nothing, are nothing. -/
theorem burst {d : List Nat} {a : Nat} (hd : ∀ b ∈ d, b < 2) (hw : ∀ t : Nat, (t < a ∨ a + 32 ≤ t) → d[t]?.getD 0 = 0) (h : d.foldl stp 0 = 0) : ∀ t : Nat, d[t]?.getD 0 = 0 := by
  have hs : d = d.take a ++ ((d.drop a).take 32 ++ d.drop (a + 32)) := by
    rw [← List.drop_drop, List.take_append_drop, List.take_append_drop]
  have z1 : ∀ b ∈ d.take a, b = 0 := by
    intro b hb
    obtain ⟨i, hi, rfl⟩ := List.mem_iff_getElem.1 hb
    have hi' : i < a ∧ i < d.length := by rw [List.length_take] at hi; omega
    have := hw i (Or.inl hi'.1)
    rw [List.getElem?_eq_getElem hi'.2] at this
    simpa using this
  have z3 : ∀ b ∈ d.drop (a + 32), b = 0 := by
    intro b hb
    obtain ⟨i, hi, rfl⟩ := List.mem_iff_getElem.1 hb
    have hi' : a + 32 + i < d.length := by rw [List.length_drop] at hi; omega
    have := hw (a + 32 + i) (Or.inr (by omega))
    rw [List.getElem?_eq_getElem hi'] at this
    simpa using this
  rw [hs, List.foldl_append, fold_zeros _ z1, List.foldl_append] at h
  have h2 := fold_zeros_back _ _ z3 (fold_lt _ _ (by decide)) h
  have hlen : ((d.drop a).take 32).length ≤ 32 := by rw [List.length_take]; omega
  have hb2 : ∀ b ∈ (d.drop a).take 32, b < 2 := fun b hb => hd b (List.mem_of_mem_drop (List.mem_of_mem_take hb))
  have h3 := valB_zero _ hlen hb2 (fold_zero _ 0 hlen hb2 (by decide) h2).symm
  intro t
  by_cases ht : t < a ∨ a + 32 ≤ t
  · exact hw t ht
  · by_cases htl : t < d.length
    · rw [List.getElem?_eq_getElem htl]
      have hm : d[t] ∈ (d.drop a).take 32 := by
        rw [List.mem_iff_getElem]
        refine ⟨t - a, by rw [List.length_take, List.length_drop]; omega, ?_⟩
        simp only [List.getElem_take, List.getElem_drop]
        congr 1; omega
      simpa using h3 _ hm
    · rw [List.getElem?_eq_none (by omega)]; rfl

/-- A sum of its own four bytes comes to nothing. -/
theorem stepsP_low : ∀ (j y : Nat), y * 2 ^ j < 4294967296 → stepsP y j = y * 2 ^ j
  | 0, y, _ => by simp [stepsP]
  | j + 1, y, h => by
    have h' : y * 2 ^ j * 2 < 4294967296 := by rw [Nat.pow_succ, ← Nat.mul_assoc] at h; exact h
    rw [stepsP, stepsP_low j y (by omega), Nat.pow_succ, ← Nat.mul_assoc]
    generalize y * 2 ^ j = z at *
    rw [xor_zero_of z 0 (by omega)]; omega
theorem xor_top (r : Nat) : r ^^^ (r / 16777216 * 16777216) = r % 16777216 := by
  have h1 : r = 2 ^ 24 * (r / 16777216) + r % 16777216 := by omega
  have h2 : r % 16777216 < 2 ^ 24 := by omega
  have h3 := Nat.two_pow_add_eq_or_of_lt h2 (r / 16777216)
  have h4 : r / 16777216 * 16777216 = 2 ^ 24 * (r / 16777216) := by omega
  apply Nat.eq_of_testBit_eq
  intro i
  rw [Nat.testBit_xor, h4]
  conv => lhs; lhs; rw [h1]
  by_cases hi : i < 24
  · rw [Nat.testBit_two_pow_mul_add _ h2, Nat.testBit_two_pow_mul]
    have hn : ¬ 24 ≤ i := by omega
    simp [hi, hn]
  · rw [Nat.testBit_two_pow_mul_add _ h2, Nat.testBit_two_pow_mul]
    have : (r % 16777216).testBit i = false := Nat.testBit_lt_two_pow (Nat.lt_of_lt_of_le h2 (Nat.pow_le_pow_right (by decide) (by omega)))
    simp [hi, this]
    omega
theorem crcB_top (r : Nat) (h : r < 4294967296) : crcB r (r / 16777216) = r % 16777216 * 256 := by
  rw [← crcB_prog h (by omega), xor_top r, stepsP_low 8 _ (by omega)]

theorem crcL_own (r : Nat) (h : r < 4294967296) (a b c d : UInt8) (ha : a.toNat = r / 16777216 % 256) (hb : b.toNat = r / 65536 % 256) (hc : c.toNat = r / 256 % 256) (hd : d.toNat = r % 256) : crcL r [a, b, c, d] = 0 := by
  have e1 : crcB r a.toNat = r % 16777216 * 256 := by rw [ha, show r / 16777216 % 256 = r / 16777216 by omega]; exact crcB_top r h
  have e2 : crcB (r % 16777216 * 256) b.toNat = r % 65536 * 65536 := by
    have := crcB_top (r % 16777216 * 256) (by omega)
    rw [show r % 16777216 * 256 / 16777216 = b.toNat by omega] at this
    rw [this]; omega
  have e3 : crcB (r % 65536 * 65536) c.toNat = r % 256 * 16777216 := by
    have := crcB_top (r % 65536 * 65536) (by omega)
    rw [show r % 65536 * 65536 / 16777216 = c.toNat by omega] at this
    rw [this]; omega
  have e4 : crcB (r % 256 * 16777216) d.toNat = 0 := by
    have := crcB_top (r % 256 * 16777216) (by omega)
    rw [show r % 256 * 16777216 / 16777216 = d.toNat by omega] at this
    rw [this]; omega
  simp only [crcL]
  rw [e1, e2, e3, e4]

/-- The t-th bit of bytes. -/
def bitAt (l : List UInt8) (t : Nat) : Nat := (bitsL l)[t]?.getD 0
theorem bitAt_cons (c : UInt8) (l : List UInt8) (t : Nat) : bitAt (c :: l) t = if t < 8 then c.toNat / 2 ^ (7 - t) % 2 else bitAt l (t - 8) := by
  unfold bitAt
  simp only [bitsL]
  by_cases h : t < 8
  · rw [if_pos h, List.getElem?_append_left (by rw [bitsB_len]; exact h)]
    rcases (show t = 0 ∨ t = 1 ∨ t = 2 ∨ t = 3 ∨ t = 4 ∨ t = 5 ∨ t = 6 ∨ t = 7 by omega) with rfl | rfl | rfl | rfl | rfl | rfl | rfl | rfl <;> simp [bitsB]
  · rw [if_neg h, List.getElem?_append_right (by rw [bitsB_len]; omega), bitsB_len]
theorem bitAt_byte : ∀ (l : List UInt8) (t : Nat), bitAt l t = (l[t / 8]?.getD 0).toNat / 2 ^ (7 - t % 8) % 2
  | [], t => by simp [bitAt, bitsL]
  | c :: l, t => by
    rw [bitAt_cons]
    by_cases h : t < 8
    · rw [if_pos h, show t / 8 = 0 by omega, show t % 8 = t by omega]; simp
    · rw [if_neg h, bitAt_byte l (t - 8), show t / 8 = (t - 8) / 8 + 1 by omega, show t % 8 = (t - 8) % 8 by omega]; simp
theorem bytes_of_bits {c d : UInt8} (h : ∀ j, j < 8 → c.toNat / 2 ^ j % 2 = d.toNat / 2 ^ j % 2) : c = d := by
  apply UInt8.toNat_inj.1
  have hc := c.toNat_lt
  have hd := d.toNat_lt
  have h0 := h 0 (by decide)
  have h1 := h 1 (by decide)
  have h2 := h 2 (by decide)
  have h3 := h 3 (by decide)
  have h4 := h 4 (by decide)
  have h5 := h 5 (by decide)
  have h6 := h 6 (by decide)
  have h7 := h 7 (by decide)
  simp only [Nat.reducePow, Nat.div_one] at h0 h1 h2 h3 h4 h5 h6 h7
  omega
theorem list_of_bits {l m : List UInt8} (hl : l.length = m.length) (h : ∀ t, t < 8 * l.length → bitAt l t = bitAt m t) : l = m := by
  apply List.ext_getElem hl
  intro i h1 h2
  apply bytes_of_bits
  intro j hj
  have := h (8 * i + (7 - j)) (by omega)
  rw [bitAt_byte, bitAt_byte, show (8 * i + (7 - j)) / 8 = i by omega, show 7 - (8 * i + (7 - j)) % 8 = j by omega, List.getElem?_eq_getElem h1, List.getElem?_eq_getElem h2] at this
  simpa using this

/-- Two rows of bytes behind one register that both come to nothing, and part within 32 bits alone, are one. -/
theorem torn {r a : Nat} (hr : r < 4294967296) {T T' : List UInt8} (hl : T.length = T'.length) (h1 : crcL r T = 0) (h2 : crcL r T' = 0)
    (hw : ∀ t : Nat, t < 8 * T.length → (t < a ∨ a + 32 ≤ t) → bitAt T t = bitAt T' t) : T = T' := by
  have hlen : (bitsL T).length = (bitsL T').length := by rw [bitsL_len, bitsL_len, hl]
  rw [crcL_bits] at h1 h2
  have hx := fold_xor (bitsL T) (bitsL T') r r hlen (bitsL_lt T) (bitsL_lt T') hr hr
  rw [Nat.xor_self, h1, h2, Nat.xor_self] at hx
  have hget : ∀ t : Nat, (List.zipWith (· ^^^ ·) (bitsL T) (bitsL T'))[t]?.getD 0 = bitAt T t ^^^ bitAt T' t := by
    intro t
    by_cases ht : t < (bitsL T).length
    · have ht' : t < (bitsL T').length := by omega
      unfold bitAt
      rw [List.getElem?_eq_getElem (by rw [List.length_zipWith]; omega), List.getElem?_eq_getElem ht, List.getElem?_eq_getElem ht']
      simp
    · unfold bitAt
      rw [List.getElem?_eq_none (by rw [List.length_zipWith]; omega), List.getElem?_eq_none (by omega), List.getElem?_eq_none (by omega)]
      rfl
  have hb := burst (a := a) (d := List.zipWith (· ^^^ ·) (bitsL T) (bitsL T')) (fun b hb => by
      obtain ⟨i, hi, rfl⟩ := List.mem_iff_getElem.1 hb
      rw [List.length_zipWith] at hi
      rw [List.getElem_zipWith]
      have p := bitsL_lt T _ (List.getElem_mem (show i < (bitsL T).length by omega))
      have q := bitsL_lt T' _ (List.getElem_mem (show i < (bitsL T').length by omega))
      exact Nat.xor_lt_two_pow (n := 1) p q) (fun t ht => by
      rw [hget]
      by_cases htl : t < 8 * T.length
      · rw [hw t htl ht, Nat.xor_self]
      · unfold bitAt
        rw [List.getElem?_eq_none (by rw [bitsL_len]; omega), List.getElem?_eq_none (by rw [bitsL_len]; omega)]
        rfl) hx
  apply list_of_bits hl
  intro t _
  have := hb t
  rw [hget] at this
  have e : bitAt T t ^^^ (bitAt T' t ^^^ bitAt T' t) = bitAt T' t := by rw [← Nat.xor_assoc, this, Nat.zero_xor]
  rw [Nat.xor_self, Nat.xor_zero] at e; exact e
end Go.Proofs.Ytgpifbdjcoiilaa
