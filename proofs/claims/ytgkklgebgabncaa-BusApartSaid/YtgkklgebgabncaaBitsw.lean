/- Words of 32 bits, bit by bit. -/
import Derived.Test.YtgkklgebgabncaaBitsum
namespace Go.Proofs.Ytgkklgebgabncaa
open Go.RowKit
set_option linter.unusedVariables false
set_option linter.unusedSimpArgs false

theorem pow_small (k : Nat) (h : k < 32) : (1 : Int) ≤ 2 ^ k ∧ (2 : Int) ^ k ≤ 2147483648 := by
  have h1 := Nat.one_le_two_pow (n := k)
  have h2 := Nat.pow_le_pow_right (n := 2) (by decide) (show k ≤ 31 by omega)
  have h3 : (2 : Nat) ^ 31 = 2147483648 := by decide
  rw [h3] at h2
  have e : ((2 ^ k : Nat) : Int) = 2 ^ k := by simp
  omega
theorem wrap_unit (k : Nat) (h : k < 32) : IntKind.u32.wrap (2 ^ k) = 2 ^ k := by
  have := pow_small k h
  rw [IntKind.wrap_u32]; omega
theorem wrap_unit2 (k : Nat) : IntKind.u32.wrap (2 * 2 ^ k) = IntKind.u32.wrap (2 ^ (k + 1)) := by
  rw [Int.pow_succ, Int.mul_comm]
theorem not_bits (b i : Nat) (hb : b < 4294967296) (hi : i < 32) : (4294967295 - b).testBit i = !b.testBit i := by
  have := Nat.testBit_two_pow_sub_succ (x := b) (n := 32) hb i
  rw [show 2 ^ 32 - (b + 1) = 4294967295 - b by omega] at this
  rw [this]
  simp [hi]
theorem lt_u32 {n : Int} (h0 : 0 ≤ n) (h1 : n ≤ 4294967295) : n.toNat < 2 ^ 32 := by omega
theorem nat_u32 {m : Nat} (h : m < 2 ^ 32) : 0 ≤ (m : Int) ∧ (m : Int) ≤ 4294967295 := by omega
theorem and_u32 (a b : Int) (h1 : 0 ≤ a) (h2 : a ≤ 4294967295) (h3 : 0 ≤ b) (h4 : b ≤ 4294967295) :
    0 ≤ bits .and .u32 a b ∧ bits .and .u32 a b ≤ 4294967295 ∧ ∀ i, i < 32 → bitI (bits .and .u32 a b) i = (bitI a i && bitI b i) := by
  rw [u32_and a b h1 (by omega) h3 (by omega)]
  obtain ⟨r0, r1⟩ := nat_u32 (Nat.and_lt_two_pow a.toNat (lt_u32 h3 h4))
  refine ⟨r0, r1, fun i hi => ?_⟩
  rw [bitI_nat, bitI_toNat h1, bitI_toNat h3, Nat.testBit_and]
theorem or_u32 (a b : Int) (h1 : 0 ≤ a) (h2 : a ≤ 4294967295) (h3 : 0 ≤ b) (h4 : b ≤ 4294967295) :
    0 ≤ bits .or .u32 a b ∧ bits .or .u32 a b ≤ 4294967295 ∧ ∀ i, i < 32 → bitI (bits .or .u32 a b) i = (bitI a i || bitI b i) := by
  rw [u32_or a b h1 (by omega) h3 (by omega)]
  obtain ⟨r0, r1⟩ := nat_u32 (Nat.or_lt_two_pow (lt_u32 h1 h2) (lt_u32 h3 h4))
  refine ⟨r0, r1, fun i hi => ?_⟩
  rw [bitI_nat, bitI_toNat h1, bitI_toNat h3, Nat.testBit_or]
theorem xor_u32 (a b : Int) (h1 : 0 ≤ a) (h2 : a ≤ 4294967295) (h3 : 0 ≤ b) (h4 : b ≤ 4294967295) :
    0 ≤ bits .xor .u32 a b ∧ bits .xor .u32 a b ≤ 4294967295 ∧ ∀ i, i < 32 → bitI (bits .xor .u32 a b) i = (bitI a i ^^ bitI b i) := by
  rw [u32_xor a b h1 (by omega) h3 (by omega)]
  obtain ⟨r0, r1⟩ := nat_u32 (Nat.xor_lt_two_pow (lt_u32 h1 h2) (lt_u32 h3 h4))
  refine ⟨r0, r1, fun i hi => ?_⟩
  rw [bitI_nat, bitI_toNat h1, bitI_toNat h3, Nat.testBit_xor]
theorem andNot_u32 (a b : Int) (h1 : 0 ≤ a) (h2 : a ≤ 4294967295) (h3 : 0 ≤ b) (h4 : b ≤ 4294967295) :
    0 ≤ bits .andNot .u32 a b ∧ bits .andNot .u32 a b ≤ 4294967295 ∧ ∀ i, i < 32 → bitI (bits .andNot .u32 a b) i = (bitI a i && !bitI b i) := by
  rw [u32_andNot a b h1 (by omega) h3 (by omega)]
  obtain ⟨r0, r1⟩ := nat_u32 (Nat.and_lt_two_pow a.toNat (show 4294967295 - b.toNat < 2 ^ 32 by omega))
  refine ⟨r0, r1, fun i hi => ?_⟩
  rw [bitI_nat, bitI_toNat h1, bitI_toNat h3, Nat.testBit_and, not_bits _ _ (by omega) hi]
/-- Two numbers of 32 bits are one if their bits are. -/
theorem bits_ext {a b : Int} (h1 : 0 ≤ a) (h2 : a ≤ 4294967295) (h3 : 0 ≤ b) (h4 : b ≤ 4294967295) (h : ∀ i, i < 32 → bitI a i = bitI b i) : a = b := by
  have e : a.toNat = b.toNat := by
    apply Nat.eq_of_testBit_eq
    intro i
    by_cases hi : i < 32
    · rw [← bitI_toNat h1, ← bitI_toNat h3, h i hi]
    · have hp : (2 : Nat) ^ 32 ≤ 2 ^ i := Nat.pow_le_pow_right (by decide) (by omega)
      rw [Nat.testBit_lt_two_pow (Nat.lt_of_lt_of_le (lt_u32 h1 h2) hp), Nat.testBit_lt_two_pow (Nat.lt_of_lt_of_le (lt_u32 h3 h4) hp)]
  omega
theorem bs_bits (f : Nat → Bool) : 0 ≤ bs f 32 ∧ bs f 32 ≤ 4294967295 ∧ ∀ i, i < 32 → bitI (bs f 32) i = f i := by
  obtain ⟨m, h1, h2, h3⟩ := bs_nat f 32
  obtain ⟨r0, r1⟩ := nat_u32 h2
  rw [h1]
  refine ⟨r0, r1, fun i hi => ?_⟩
  rw [bitI_nat, h3]
  simp [hi]
theorem zero_bits (i : Nat) : bitI 0 i = false := by simp [bitI]
end Go.Proofs.Ytgkklgebgabncaa
