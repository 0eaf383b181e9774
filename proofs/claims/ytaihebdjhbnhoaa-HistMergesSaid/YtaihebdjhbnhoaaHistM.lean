/- The ends of buckets: the walk of the law HistEnds. -/
import Derived.Test.YtaihebdjhbnhoaaHistL
namespace Go.Proofs.Ytaihebdjhbnhoaa
open Go.RowKit
set_option linter.unusedVariables false
set_option linter.unusedSimpArgs false

theorem bitLen_pos {x : Nat} (h : x ≠ 0) (hx : x < 2 ^ 64) : 1 ≤ Lib.bitLen x := by
  rw [Lib.bitLen_half x h hx]; omega
theorem bitLen_gt {x k : Nat} (h : 2 ^ k ≤ x) (hx : x < 2 ^ 64) : k < Lib.bitLen x := by
  rw [Lib.bitLen_shift k x h hx]
  have h1 : 1 ≤ x / 2 ^ k := (Nat.le_div_iff_mul_le (Nat.two_pow_pos k)).2 (by omega)
  have := bitLen_pos (x := x / 2 ^ k) (by omega) (Nat.lt_of_le_of_lt (Nat.div_le_self _ _) hx)
  omega
theorem bitLen_lt_iff {x k : Nat} (hk : k ≤ 64) (hx : x < 2 ^ 64) : Lib.bitLen x ≤ k ↔ x < 2 ^ k := by
  constructor
  · intro h
    rcases Nat.lt_or_ge x (2 ^ k) with h1 | h1
    · exact h1
    · have := bitLen_gt h1 hx
      omega
  · intro h
    exact Lib.bitLen_le x k hk h
theorem bitLen_eq {x k : Nat} (hk : 1 ≤ k) (hk2 : k ≤ 64) (hx : x < 2 ^ 64) : Lib.bitLen x = k ↔ 2 ^ (k - 1) ≤ x ∧ x < 2 ^ k := by
  have h1 := bitLen_lt_iff (x := x) (k := k) hk2 hx
  have h2 := bitLen_lt_iff (x := x) (k := k - 1) (by omega) hx
  omega
/-- What the ends of a bucket are good for. -/
structure EndsOk (k : Nat) (A B : Int) : Prop where
  a0 : 0 ≤ A
  ab : A ≤ B
  b1 : B ≤ 18446744073709551615
  oa : Lib.bitLen A.toNat = k
  ob : Lib.bitLen B.toNat = k
  prev : 0 < k → 1 ≤ A ∧ Lib.bitLen (A - 1).toNat = k - 1
  mem : ∀ n : Int, 0 ≤ n → n ≤ 18446744073709551615 → ((A ≤ n ∧ n ≤ B) ↔ Lib.bitLen n.toNat = k)
theorem bitLen_zero : Lib.bitLen 0 = 0 := by decide
theorem ends_ok (k : Nat) (hk : k < 65) : ∃ A B, endsI (k : Int) = (A, B, true) ∧ EndsOk k A B := by
  rcases Nat.eq_zero_or_pos k with h0 | h0
  · subst h0
    refine ⟨0, 0, rfl, ⟨by omega, by omega, by omega, by decide, by decide, by omega, fun n n0 n1 => ?_⟩⟩
    constructor
    · intro h
      rw [show n.toNat = 0 by omega]; decide
    · intro h
      rcases Nat.eq_zero_or_pos n.toNat with q | q
      · omega
      · have := bitLen_pos (x := n.toNat) (by omega) (by omega)
        omega
  · obtain ⟨j, rfl⟩ : ∃ j, k = j + 1 := ⟨k - 1, by omega⟩
    have hp : (2 : Nat) ^ (j + 1) = 2 * 2 ^ j := by rw [Nat.pow_succ]; omega
    have hp1 : 1 ≤ 2 ^ j := Nat.one_le_two_pow
    have hp2 : (2 : Nat) ^ (j + 1) ≤ 2 ^ 64 := Nat.pow_le_pow_right (by decide) (by omega)
    have hE : endsI ((j + 1 : Nat) : Int) = (((2 ^ j : Nat) : Int), ((2 ^ (j + 1) : Nat) : Int) - 1, true) := by
      unfold endsI
      rw [if_neg (by omega), if_neg (by omega)]
      have e1 : (((j + 1 : Nat) : Int) - 1).toNat = j := by omega
      rw [e1]
      refine Prod.ext (by simp) (Prod.ext ?_ rfl)
      show maskI _ = _
      unfold maskI
      split
      · have : j = 63 := by omega
        subst this
        decide
      · rw [show ((j + 1 : Nat) : Int).toNat = j + 1 by omega]
        simp
    refine ⟨_, _, hE, ?_⟩
    have q1 : (((2 ^ j : Nat) : Int)).toNat = 2 ^ j := by omega
    have q2 : (((2 ^ (j + 1) : Nat) : Int) - 1).toNat = 2 ^ (j + 1) - 1 := by omega
    have q3 : (((2 ^ j : Nat) : Int) - 1).toNat = 2 ^ j - 1 := by omega
    have u : (2 : Nat) ^ 64 = 18446744073709551616 := by decide
    refine ⟨by omega, by omega, by omega, ?_, ?_, fun _ => ⟨by omega, ?_⟩, fun n n0 n1 => ?_⟩
    · rw [q1, bitLen_eq (by omega) (by omega) (by omega)]
      simp only [Nat.add_sub_cancel]
      omega
    · rw [q2, bitLen_eq (by omega) (by omega) (by omega)]
      simp only [Nat.add_sub_cancel]
      omega
    · rw [q3]
      simp only [Nat.add_sub_cancel]
      rcases Nat.eq_zero_or_pos j with z | z
      · subst z; decide
      · rw [bitLen_eq (by omega) (by omega) (by omega)]
        have : (2 : Nat) ^ j = 2 * 2 ^ (j - 1) := by
          obtain ⟨i, rfl⟩ : ∃ i, j = i + 1 := ⟨j - 1, by omega⟩
          rw [Nat.pow_succ]; simp only [Nat.add_sub_cancel]; omega
        have := Nat.one_le_two_pow (n := j - 1)
        omega
    · rw [bitLen_eq (by omega) (by omega) (by omega)]
      simp only [Nat.add_sub_cancel]
      omega
/-! ### The walk -/
theorem of_same (x : Int) (w : World) (h0 : 0 ≤ x) (h1 : x ≤ 18446744073709551615) :
    Calls Try.prog 11 #[.int .u64 x] w fun e w' => e = .returned (.int .i64 (Lib.bitLen x.toNat)) ∧ w = w' := (of_any x w h0 h1).mono fun e w' h => ⟨h.1, h.2.symm⟩
set_option maxHeartbeats 32000000 in
set_option maxRecDepth 100000 in
theorem HistEnds_walk (n kk : Int) (W : World) (n0 : 0 ≤ n) (n1 : n ≤ 18446744073709551615) (k0 : -9223372036854775808 ≤ kk) (k1 : kk ≤ 9223372036854775807) :
    Calls Try.prog 3 #[.int .u64 n, .int .i64 kk] W fun e w' => e = .returned (.bool true) ∧ Below W.heap.size W w' := by
  go_enter Try.func3, Try.ntmps3
  go_wp2_with (go_at_call 11; refine (of_same _ _ (by omega) (by omega)).mono ?_; rintro e w' ⟨rfl, rfl⟩)
  go_loopw [6] (fun i wr => ∃ k : Nat, k ≤ 65 ∧ i = .int .i64 k ∧ Below W.heap.size W wr) (fun i _ => 65 - (intOf i).toNat)
  case atStart => exact ⟨0, by omega, rfl, Below.refl _ _⟩
  case round =>
    obtain ⟨k, hk, rfl, hB⟩ := hrel
    have HB := Lib.hid hB
    clear hB
    by_cases hlt : k < 65
    · obtain ⟨A, B, hE, ok⟩ := ends_ok k hlt
      obtain ⟨a0, ab, b1, oa, ob, prev, mem⟩ := ok
      have HE := Lib.hid hE
      have b0 : 0 ≤ B := by omega
      have a1 : A ≤ 18446744073709551615 := by omega
      have tab : decide (B < A) = false := by simp; omega
      have hm := mem n n0 n1
      have toa2 : ((Lib.bitLen A.toNat : Int) != (k : Int)) = false := by simp; omega
      have tob2 : ((Lib.bitLen B.toNat : Int) != (k : Int)) = false := by simp; omega
      have k00 : (0 : Int) ≤ (k : Int) := by omega
      have k65 : (k : Int) < 65 := by omega
      clear oa ob mem hE
      by_cases hz : k = 0
      · have tz : decide (0 < (k : Int)) = false := by simp; omega
        have tz2 : decide (0 < k) = false := by simp; omega
        clear prev hz
        by_cases hin : Lib.bitLen n.toNat = k
        · obtain ⟨h1, h2⟩ := hm.2 hin
          have t1 : decide (A ≤ n) = true := by simpa using h1
          have t2 : decide (n ≤ B) = true := by simpa using h2
          have t3 : ((k : Int) == (Lib.bitLen n.toNat : Int)) = true := by simp; omega
          clear hm hin
          go_wp2_with (first | (go_at_call 11; refine (of_same _ _ (by omega) (by omega)).mono ?_; rintro e w' ⟨rfl, rfl⟩) | (go_at_call 12; refine (ends_any (k : Int) _ (by omega) (by omega)).mono ?_; rw [HE.out]; rintro e w2 ⟨rfl, hb⟩))
          go_roundw
          case rel => exact ⟨k + 1, by omega, by simp, below_then HB.out hb⟩
          case measure => simp [intOf]; omega
        · have t3 : ((k : Int) == (Lib.bitLen n.toNat : Int)) = false := by simp; omega
          by_cases hA : A ≤ n
          · have h2 : ¬ n ≤ B := fun h => hin (hm.1 ⟨hA, h⟩)
            have t1 : decide (A ≤ n) = true := by simpa using hA
            have t2 : decide (n ≤ B) = false := by simpa using h2
            clear hm hin
            go_wp2_with (first | (go_at_call 11; refine (of_same _ _ (by omega) (by omega)).mono ?_; rintro e w' ⟨rfl, rfl⟩) | (go_at_call 12; refine (ends_any (k : Int) _ (by omega) (by omega)).mono ?_; rw [HE.out]; rintro e w2 ⟨rfl, hb⟩))
            go_roundw
            case rel => exact ⟨k + 1, by omega, by simp, below_then HB.out hb⟩
            case measure => simp [intOf]; omega
          · have t1 : decide (A ≤ n) = false := by simpa using hA
            clear hm hin
            go_wp2_with (first | (go_at_call 11; refine (of_same _ _ (by omega) (by omega)).mono ?_; rintro e w' ⟨rfl, rfl⟩) | (go_at_call 12; refine (ends_any (k : Int) _ (by omega) (by omega)).mono ?_; rw [HE.out]; rintro e w2 ⟨rfl, hb⟩))
            go_roundw
            case rel => exact ⟨k + 1, by omega, by simp, below_then HB.out hb⟩
            case measure => simp [intOf]; omega
      · obtain ⟨p1, p2⟩ := prev (by omega)
        have tz : decide (0 < (k : Int)) = true := by simp; omega
        have tz2 : decide (0 < k) = true := by simp; omega
        have tp : ((Lib.bitLen (A - 1).toNat : Int) != (k : Int) - 1) = false := by
          rw [p2, show ((k - 1 : Nat) : Int) = (k : Int) - 1 by omega]
          simp
        have tp3 : ((Lib.bitLen (A.toNat - 1) : Int) != (k : Int) - 1) = false := by
          rw [show A.toNat - 1 = (A - 1).toNat by omega]
          exact tp
        have am0 : 0 ≤ A - 1 := by omega
        have am1 : A - 1 ≤ 18446744073709551615 := by omega
        clear p2 prev hz
        by_cases hin : Lib.bitLen n.toNat = k
        · obtain ⟨h1, h2⟩ := hm.2 hin
          have t1 : decide (A ≤ n) = true := by simpa using h1
          have t2 : decide (n ≤ B) = true := by simpa using h2
          have t3 : ((k : Int) == (Lib.bitLen n.toNat : Int)) = true := by simp; omega
          clear hm hin
          go_wp2_with (first | (go_at_call 11; refine (of_same _ _ (by omega) (by omega)).mono ?_; rintro e w' ⟨rfl, rfl⟩) | (go_at_call 12; refine (ends_any (k : Int) _ (by omega) (by omega)).mono ?_; rw [HE.out]; rintro e w2 ⟨rfl, hb⟩))
          go_roundw
          case rel => exact ⟨k + 1, by omega, by simp, below_then HB.out hb⟩
          case measure => simp [intOf]; omega
        · have t3 : ((k : Int) == (Lib.bitLen n.toNat : Int)) = false := by simp; omega
          by_cases hA : A ≤ n
          · have h2 : ¬ n ≤ B := fun h => hin (hm.1 ⟨hA, h⟩)
            have t1 : decide (A ≤ n) = true := by simpa using hA
            have t2 : decide (n ≤ B) = false := by simpa using h2
            clear hm hin
            go_wp2_with (first | (go_at_call 11; refine (of_same _ _ (by omega) (by omega)).mono ?_; rintro e w' ⟨rfl, rfl⟩) | (go_at_call 12; refine (ends_any (k : Int) _ (by omega) (by omega)).mono ?_; rw [HE.out]; rintro e w2 ⟨rfl, hb⟩))
            go_roundw
            case rel => exact ⟨k + 1, by omega, by simp, below_then HB.out hb⟩
            case measure => simp [intOf]; omega
          · have t1 : decide (A ≤ n) = false := by simpa using hA
            clear hm hin
            go_wp2_with (first | (go_at_call 11; refine (of_same _ _ (by omega) (by omega)).mono ?_; rintro e w' ⟨rfl, rfl⟩) | (go_at_call 12; refine (ends_any (k : Int) _ (by omega) (by omega)).mono ?_; rw [HE.out]; rintro e w2 ⟨rfl, hb⟩))
            go_roundw
            case rel => exact ⟨k + 1, by omega, by simp, below_then HB.out hb⟩
            case measure => simp [intOf]; omega
    · obtain rfl : k = 65 := by omega
      by_cases hin : 0 ≤ kk ∧ kk < 65
      · obtain ⟨A, B, hE, _⟩ := ends_ok kk.toNat (by omega)
        rw [show ((kk.toNat : Nat) : Int) = kk by omega] at hE
        have HE := Lib.hid hE
        have t1 : decide (0 ≤ kk) = true := by simp; omega
        have t2 : decide (kk < 65) = true := by simp; omega
        clear hE hin
        go_wp2_with (first | (go_at_call 12; refine (ends_any kk _ (by omega) (by omega)).mono ?_; rw [HE.out]; rintro e w2 ⟨rfl, hb⟩) | (go_at_call 13; refine (known33 _).mono ?_; rintro e w3 ⟨rfl, hb3⟩))
        go_ret
        exact ⟨rfl, below_then (below_then HB.out hb) hb3⟩
      · have hE : endsI kk = (0, 0, false) := by unfold endsI; rw [if_pos (by omega)]
        have HE := Lib.hid hE
        clear hE
        by_cases h0 : 0 ≤ kk
        · have t1 : decide (0 ≤ kk) = true := by simp; omega
          have t2 : decide (kk < 65) = false := by simp; omega
          clear hin
          go_wp2_with (first | (go_at_call 12; refine (ends_any kk _ (by omega) (by omega)).mono ?_; rw [HE.out]; rintro e w2 ⟨rfl, hb⟩) | (go_at_call 13; refine (known33 _).mono ?_; rintro e w3 ⟨rfl, hb3⟩))
          go_ret
          exact ⟨rfl, below_then (below_then HB.out hb) hb3⟩
        · have t1 : decide (0 ≤ kk) = false := by simp; omega
          clear hin
          go_wp2_with (first | (go_at_call 12; refine (ends_any kk _ (by omega) (by omega)).mono ?_; rw [HE.out]; rintro e w2 ⟨rfl, hb⟩) | (go_at_call 13; refine (known33 _).mono ?_; rintro e w3 ⟨rfl, hb3⟩))
          go_ret
          exact ⟨rfl, below_then (below_then HB.out hb) hb3⟩
end Go.Proofs.Ytaihebdjhbnhoaa
