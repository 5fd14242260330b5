/- The check sum by nibbles is the check sum by bits: numbers alone. -/
import Derived.Test.YthiebcecflpbnaaDoorZE1
namespace Go.Proofs.YthiebcecflpbnaaDoor.E
open Go.RowKit
set_option linter.unusedVariables false

/-- One step of the register. -/
def gs (x : Nat) : Nat := (x / 2) ^^^ (if x % 2 = 1 then 3988292384 else 0)
theorem xor_half (a b : Nat) : (a ^^^ b) / 2 = a / 2 ^^^ b / 2 := by
  have := Nat.xor_div_two_pow (a := a) (b := b) (n := 1)
  simpa using this
theorem xor_odd (a b : Nat) : (a ^^^ b) % 2 = (a % 2 + b % 2) % 2 := by
  have h := Nat.xor_mod_two_pow (a := a) (b := b) (n := 1)
  simp only [Nat.pow_one] at h
  rw [h]
  rcases Nat.mod_two_eq_zero_or_one a with ha | ha <;> rcases Nat.mod_two_eq_zero_or_one b with hb | hb <;> simp [ha, hb]
theorem gs_xor (a b : Nat) : gs (a ^^^ b) = gs a ^^^ gs b := by
  unfold gs
  rw [xor_half, xor_odd]
  rcases Nat.mod_two_eq_zero_or_one a with ha | ha <;> rcases Nat.mod_two_eq_zero_or_one b with hb | hb
  · simp [ha, hb]
  · simp [ha, hb, Nat.xor_assoc]
  · simp [ha, hb]
    ac_rfl
  · simp only [ha, hb]
    simp only [show (1 + 1) % 2 = 0 from rfl, if_true, show ¬ ((0 : Nat) = 1) from by decide, if_false, Nat.xor_zero]
    rw [show (a / 2 ^^^ 3988292384) ^^^ (b / 2 ^^^ 3988292384) = (a / 2 ^^^ b / 2) ^^^ (3988292384 ^^^ 3988292384) by ac_rfl, Nat.xor_self, Nat.xor_zero]
theorem gs_even (z : Nat) : gs (2 * z) = z := by
  unfold gs
  rw [if_neg (by omega)]
  simp
def g4 (x : Nat) : Nat := gs (gs (gs (gs x)))
theorem g4_xor (a b : Nat) : g4 (a ^^^ b) = g4 a ^^^ g4 b := by unfold g4; rw [gs_xor, gs_xor, gs_xor, gs_xor]
theorem g4_high (z : Nat) : g4 (16 * z) = z := by
  unfold g4
  rw [show 16 * z = 2 * (2 * (2 * (2 * z))) by omega, gs_even, gs_even, gs_even, gs_even]
theorem split16 (y : Nat) : y = (16 * (y / 16)) ^^^ (y % 16) := by
  have h1 : ((16 * (y / 16)) ^^^ (y % 16)) / 2 ^ 4 = y / 16 := by
    rw [Nat.xor_div_two_pow, show (16 * (y / 16)) / 2 ^ 4 = y / 16 by omega, show (y % 16) / 2 ^ 4 = 0 by omega, Nat.xor_zero]
  have h2 : ((16 * (y / 16)) ^^^ (y % 16)) % 2 ^ 4 = y % 16 := by
    rw [Nat.xor_mod_two_pow, show (16 * (y / 16)) % 2 ^ 4 = 0 by omega, show (y % 16) % 2 ^ 4 = y % 16 by omega, Nat.zero_xor]
  omega
theorem g4_tab : ∀ n : Fin 16, g4 n.val = tabN n.val := by decide +kernel
theorem and15 (y : Nat) : y &&& 15 = y % 16 := Nat.and_two_pow_sub_one_eq_mod y 4
theorem g4_eq (y : Nat) : g4 y = tabN (y &&& 15) ^^^ (y / 16) := by
  rw [and15]
  have h := g4_tab ⟨y % 16, by omega⟩
  simp only at h
  have e : g4 y = g4 ((16 * (y / 16)) ^^^ (y % 16)) := congrArg g4 (split16 y)
  rw [e, g4_xor, g4_high, h, Nat.xor_comm]
theorem xor_div16 (a b : Nat) : (a ^^^ b) / 16 = a / 16 ^^^ b / 16 := by
  have := Nat.xor_div_two_pow (a := a) (b := b) (n := 4)
  simpa using this
theorem crcByte_eq (r b : Nat) (hb : b < 256) : crcByte r b = g4 (g4 (r ^^^ b)) := by
  have e : g4 (r ^^^ b) = nibStep r b ^^^ (b / 16) := by
    rw [g4_eq, xor_div16]
    unfold nibStep
    rw [Nat.xor_assoc]
  rw [e, g4_eq, xor_div16, show b / 16 / 16 = 0 by omega, Nat.xor_zero]
  rfl
/-- One bit of a byte. -/
def bitS (r b i : Nat) : Nat := (r / 2) ^^^ (if (r ^^^ (b / 2 ^ i % 2)) % 2 = 1 then 3988292384 else 0)
theorem bitS_eq (s b i : Nat) : bitS (s ^^^ (b / 2 ^ i)) b i = gs s ^^^ (b / 2 ^ (i + 1)) := by
  unfold bitS gs
  rw [xor_half, Nat.div_div_eq_div_mul, ← Nat.pow_succ]
  have e : (s ^^^ b / 2 ^ i ^^^ b / 2 ^ i % 2) % 2 = s % 2 := by
    rw [xor_odd, xor_odd]
    have : b / 2 ^ i % 2 % 2 = b / 2 ^ i % 2 := by omega
    omega
  rw [e]
  ac_rfl
def bits8 (r b : Nat) : Nat → Nat
  | 0 => r
  | i + 1 => bitS (bits8 r b i) b i
def gsn (x : Nat) : Nat → Nat
  | 0 => x
  | i + 1 => gs (gsn x i)
theorem bits8_eq (r b : Nat) : ∀ i, bits8 r b i = gsn (r ^^^ b) i ^^^ (b / 2 ^ i)
  | 0 => by simp [bits8, gsn, Nat.xor_assoc]
  | i + 1 => by rw [bits8, bits8_eq r b i, bitS_eq, gsn]
theorem bits8_byte (r b : Nat) (hb : b < 256) : bits8 r b 8 = crcByte r b := by
  rw [bits8_eq, crcByte_eq r b hb, show b / 2 ^ 8 = 0 by omega, Nat.xor_zero]
  rfl
theorem bitS_lt (r b i : Nat) (h : r < 4294967296) : bitS r b i < 4294967296 := by
  unfold bitS
  refine Nat.xor_lt_two_pow (n := 32) (by omega) ?_
  split <;> decide
theorem bits8_lt (r b : Nat) (h : r < 4294967296) : ∀ i, bits8 r b i < 4294967296
  | 0 => h
  | i + 1 => bitS_lt _ _ _ (bits8_lt r b h i)
end Go.Proofs.YthiebcecflpbnaaDoor.E
