/-
  PLAIN LAWS OF LAYER 3 (seal): the sum of a text, bit by bit; that it is linear; what a burst of at most 32 changed bits does to it. No program in sight.
-/
import Derived.Lib.Walk
namespace Go.Proofs.Ytgpifbdjcoiilaa

/-- One bit into the register. -/
def stp (r b : Nat) : Nat := (r * 2 % 4294967296) ^^^ (if r / 2147483648 = b then 0 else 79764919)
/-- A byte's bits, the highest first: j of them. -/
def steps (r c : Nat) : Nat → Nat
  | 0 => r
  | j + 1 => stp (steps r c j) (c / 2 ^ (7 - j) % 2)
/-- As the program does it: the byte is in the register already. -/
def stepsP (x : Nat) : Nat → Nat
  | 0 => x
  | j + 1 => stp (stepsP x j) 0
def crcB (r c : Nat) : Nat := steps r c 8
/-- The register behind bytes, from a register on. -/
def crcL (r : Nat) : List UInt8 → Nat
  | [] => r
  | c :: t => crcL (crcB r c.toNat) t
def crc (l : List UInt8) : Nat := crcL 4294967295 l

theorem crcL_append (l m : List UInt8) : ∀ r, crcL r (l ++ m) = crcL (crcL r l) m := by
  induction l with
  | nil => intro r; rfl
  | cons c t ih => intro r; exact ih _
theorem crc_snoc (l : List UInt8) (c : UInt8) : crc (l ++ [c]) = crcB (crc l) c.toNat := by unfold crc; rw [crcL_append]; rfl

theorem stp_lt (r b : Nat) : stp r b < 4294967296 := by
  unfold stp
  have h1 : r * 2 % 4294967296 < 2 ^ 32 := by omega
  have h2 : (if r / 2147483648 = b then 0 else 79764919) < 2 ^ 32 := by split <;> omega
  exact Nat.xor_lt_two_pow h1 h2
theorem steps_lt {r : Nat} (h : r < 4294967296) (c : Nat) : ∀ j, steps r c j < 4294967296
  | 0 => h
  | _ + 1 => stp_lt _ _
theorem stepsP_lt {x : Nat} (h : x < 4294967296) : ∀ j, stepsP x j < 4294967296
  | 0 => h
  | _ + 1 => stp_lt _ _
theorem crcL_lt (l : List UInt8) : ∀ {r : Nat}, r < 4294967296 → crcL r l < 4294967296 := by
  induction l with
  | nil => intro r h; exact h
  | cons c t ih => intro r h; exact ih (steps_lt h _ 8)
theorem crc_lt (l : List UInt8) : crc l < 4294967296 := crcL_lt l (by decide)

theorem two_mul_xor (a b : Nat) : (a ^^^ b) * 2 % 4294967296 = (a * 2 % 4294967296) ^^^ (b * 2 % 4294967296) := by
  have h : (a ^^^ b) * 2 = (a * 2) ^^^ (b * 2) := by
    have := Nat.shiftLeft_xor_distrib (a := a) (b := b) (i := 1)
    simpa [Nat.shiftLeft_eq] using this
  rw [h]
  exact Nat.xor_mod_two_pow (n := 32)
theorem top_xor (a b : Nat) : (a ^^^ b) / 2147483648 = (a / 2147483648) ^^^ (b / 2147483648) := by
  have := Nat.shiftRight_xor_distrib (a := a) (b := b) (i := 31)
  simpa [Nat.shiftRight_eq_div_pow] using this

theorem bit_cases {r : Nat} (h : r < 4294967296) : r / 2147483648 = 0 ∨ r / 2147483648 = 1 := by omega

/-- The register and the bit, changed together. -/
theorem stp_xor {r x : Nat} (hr : r < 4294967296) (hx : x < 4294967296) (b d : Nat) (hb : b < 2) (hd : d < 2) :
    stp (r ^^^ x) (b ^^^ d) = stp r b ^^^ stp x d := by
  unfold stp
  rw [two_mul_xor, top_xor]
  have k : ∀ p q : Nat, p < 2 → q < 2 → ((if p ^^^ q = b ^^^ d then (0:Nat) else 79764919) = (if p = b then 0 else 79764919) ^^^ (if q = d then 0 else 79764919)) := by
    intro p q hp hq
    rcases (show p = 0 ∨ p = 1 by omega) with rfl | rfl <;> rcases (show q = 0 ∨ q = 1 by omega) with rfl | rfl <;> rcases (show b = 0 ∨ b = 1 by omega) with rfl | rfl <;> rcases (show d = 0 ∨ d = 1 by omega) with rfl | rfl <;> decide
  rw [k _ _ (by omega) (by omega)]
  generalize r * 2 % 4294967296 = A
  generalize x * 2 % 4294967296 = B
  generalize (if r / 2147483648 = b then (0:Nat) else 79764919) = C
  generalize (if x / 2147483648 = d then (0:Nat) else 79764919) = D
  rw [Nat.xor_assoc, Nat.xor_assoc, ← Nat.xor_assoc B, Nat.xor_comm B C, Nat.xor_assoc C]

theorem xor_zero_of (x : Nat) (d : Nat) (h : x / 2147483648 = d) : stp x d = x * 2 % 4294967296 := by
  unfold stp; rw [if_pos h, Nat.xor_zero]

/-- The program's way is the document's. -/
theorem stepsP_eq {r c : Nat} (hr : r < 4294967296) (hc : c < 256) : ∀ j, j ≤ 8 → stepsP (r ^^^ (c * 16777216)) j = steps r c j ^^^ (c * 16777216 * 2 ^ j % 4294967296)
  | 0, _ => by simp only [stepsP, steps, Nat.pow_zero, Nat.mul_one]; rw [Nat.mod_eq_of_lt (by omega)]
  | j + 1, hj => by
    have ih := stepsP_eq hr hc j (by omega)
    have hs := steps_lt hr c j
    have hlt : c * 16777216 * 2 ^ j % 4294967296 < 4294967296 := Nat.mod_lt _ (by decide)
    have htop : c * 16777216 * 2 ^ j % 4294967296 / 2147483648 = c / 2 ^ (7 - j) % 2 := by
      rcases (show j = 0 ∨ j = 1 ∨ j = 2 ∨ j = 3 ∨ j = 4 ∨ j = 5 ∨ j = 6 ∨ j = 7 by omega) with rfl | rfl | rfl | rfl | rfl | rfl | rfl | rfl <;> simp <;> omega
    simp only [stepsP, steps]
    rw [ih]
    have hb : c / 2 ^ (7 - j) % 2 < 2 := Nat.mod_lt _ (by decide)
    have hx := stp_xor hs hlt (c / 2 ^ (7 - j) % 2) (c / 2 ^ (7 - j) % 2) hb hb
    rw [Nat.xor_self] at hx
    rw [hx, xor_zero_of _ _ htop]
    congr 1
    rw [Nat.pow_succ, ← Nat.mul_assoc (c * 16777216) (2 ^ j) 2]
    generalize c * 16777216 * 2 ^ j = y
    omega

theorem crcB_prog {r c : Nat} (hr : r < 4294967296) (hc : c < 256) : stepsP (r ^^^ (c * 16777216)) 8 = crcB r c := by
  rw [stepsP_eq hr hc 8 (Nat.le_refl _)]
  have : c * 16777216 * 2 ^ 8 % 4294967296 = 0 := by omega
  rw [this, Nat.xor_zero]; rfl
end Go.Proofs.Ytgpifbdjcoiilaa
