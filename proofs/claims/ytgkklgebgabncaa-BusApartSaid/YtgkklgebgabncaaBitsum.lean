/- Bits of a number, and sums of bits; the document's Bit. -/
import Derived.Test.YtgkklgebgabncaaW0
import Derived.Test.YtgkklgebgabncaaProg
import Derived.Deep.LoopGhost
namespace Go.Proofs.Ytgkklgebgabncaa
open Go.RowKit
set_option linter.unusedVariables false
set_option linter.unusedSimpArgs false

def bitI (n : Int) (i : Nat) : Bool := n / 2 ^ i % 2 == 1
/-- The number whose lowest k bits are as f tells. -/
def bs (f : Nat → Bool) : Nat → Int
  | 0 => 0
  | k + 1 => bs f k + if f k then 2 ^ k else 0
theorem bs_range (f : Nat → Bool) : ∀ k, 0 ≤ bs f k ∧ bs f k < 2 ^ k
  | 0 => by simp [bs]
  | k + 1 => by
    have h := bs_range f k
    have hp : (2 : Int) ^ (k + 1) = 2 ^ k + 2 ^ k := by rw [Int.pow_succ]; omega
    rw [bs, hp]
    split <;> omega
theorem bitI_nat (n i : Nat) : bitI (n : Int) i = n.testBit i := by
  rw [bitI, Nat.testBit_eq_decide_div_mod_eq]
  rw [show ((2 : Int) ^ i) = ((2 ^ i : Nat) : Int) by simp, ← Int.natCast_ediv]
  rw [show (((n / 2 ^ i : Nat) : Int) % 2) = ((n / 2 ^ i % 2 : Nat) : Int) by simp]
  rw [Bool.eq_iff_iff]
  simp only [beq_iff_eq, decide_eq_true_eq]
  omega
theorem bitI_toNat {n : Int} (h : 0 ≤ n) (i : Nat) : bitI n i = n.toNat.testBit i := by
  obtain ⟨m, rfl⟩ := Int.eq_ofNat_of_zero_le h
  rw [bitI_nat, Int.toNat_natCast]
theorem bs_nat (f : Nat → Bool) (k : Nat) : ∃ m : Nat, bs f k = m ∧ m < 2 ^ k ∧ ∀ i, m.testBit i = (decide (i < k) && f i) := by
  induction k with
  | zero => exact ⟨0, rfl, by simp, fun i => by simp⟩
  | succ k ih =>
    obtain ⟨m, h1, h2, h3⟩ := ih
    by_cases hf : f k = true
    · refine ⟨2 ^ k + m, by rw [bs, h1, if_pos hf, Int.natCast_add]; simp; omega, by rw [Nat.pow_succ]; omega, fun i => ?_⟩
      rcases Nat.lt_trichotomy i k with hi | rfl | hi
      · rw [Nat.testBit_two_pow_add_gt hi, h3]
        simp [hi, Nat.lt_succ_of_lt hi]
      · rw [Nat.testBit_two_pow_add_eq, Nat.testBit_lt_two_pow h2]
        simp [hf]
      · have hlt : 2 ^ k + m < 2 ^ i := Nat.lt_of_lt_of_le (by rw [Nat.pow_succ]; omega : 2 ^ k + m < 2 ^ (k + 1)) (Nat.pow_le_pow_right (by decide) hi)
        rw [Nat.testBit_lt_two_pow hlt]
        have : ¬ i < k + 1 := by omega
        simp [this]
    · refine ⟨m, by rw [bs, h1, if_neg hf]; simp, by rw [Nat.pow_succ]; omega, fun i => ?_⟩
      rw [h3]
      by_cases hi : i = k
      · subst hi; simp [hf]
      · have : decide (i < k + 1) = decide (i < k) := by rw [decide_eq_decide]; omega
        rw [this]
/-- A number below 2 to the k is the sum of its bits. -/
theorem bs_eq (f : Nat → Bool) (k m : Nat) (hm : m < 2 ^ k) (h : ∀ i, i < k → f i = m.testBit i) : bs f k = m := by
  obtain ⟨n, h1, h2, h3⟩ := bs_nat f k
  rw [h1]
  congr 1
  apply Nat.eq_of_testBit_eq
  intro i
  rw [h3]
  by_cases hi : i < k
  · simp [hi, h i hi]
  · rw [Nat.testBit_lt_two_pow (Nat.lt_of_lt_of_le hm (Nat.pow_le_pow_right (by decide) (by omega)))]
    simp [hi]
theorem half_pow (n : Int) (k : Nat) : n / 2 ^ k / 2 = n / 2 ^ (k + 1) := by
  rw [Int.pow_succ, Int.ediv_ediv_of_nonneg (by exact_mod_cast Nat.zero_le _)]
theorem pow_half_range {n : Int} (h0 : 0 ≤ n) (h1 : n ≤ 18446744073709551615) (k : Nat) : 0 ≤ n / 2 ^ k ∧ n / 2 ^ k ≤ 18446744073709551615 :=
  ⟨Int.ediv_nonneg h0 (by exact_mod_cast Nat.zero_le _), Int.le_trans (Int.ediv_le_self _ h0) h1⟩

set_option maxHeartbeats 4000000 in
set_option maxRecDepth 100000 in
theorem bit01_any (n i : Int) (w : World) (h0 : 0 ≤ n) (h1 : n ≤ 18446744073709551615) (hi : i ≤ 9223372036854775807) :
    Calls Try.prog 67 #[.int .u64 n, .int .i64 i] w fun e w' => e = .returned (.bool (bitI n i.toNat)) ∧ Below w.heap.size w w' := by
  go_enter Try.func67, Try.ntmps67
  go_wp2
  go_loopg [0, 5] i.toNat (fun g v k wr => ∃ (j : Nat), j + g = i.toNat ∧ v = .int .u64 (n / 2 ^ j) ∧ k = .int .i64 j ∧ wr = w)
  case atStart => exact ⟨0, by omega, by simp, rfl, rfl⟩
  case round =>
    obtain ⟨j, hj, rfl, rfl, rfl⟩ := hrel
    obtain ⟨q0, q1⟩ := pow_half_range h0 h1 j
    by_cases hlt : (j : Int) < i
    · have e1 := half_pow n j
      go_wp2
      cases gk with
      | zero => omega
      | succ g =>
      go_roundg g
      case measure => omega
      case rel => exact ⟨j + 1, by omega, by rw [e1], by go_num, rfl⟩
    · have hj2 : j = i.toNat := by omega
      have hge : decide ((j : Int) < i) = false := by simpa using hlt
      clear hj
      go_wp2
      go_ret
      exact ⟨ret_bool (by rw [bitI, Int.tmod_eq_emod_of_nonneg (pow_half_range h0 h1 _).1]), Below.refl _ _⟩
end Go.Proofs.Ytgkklgebgabncaa
