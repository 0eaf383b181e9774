/- The document's functions on sorted numbers: Sum, Of, Ends, Part. -/
import Derived.Test.YtaihebdjhbnhoaaHistP
namespace Go.Proofs.Ytaihebdjhbnhoaa
open Go.RowKit
set_option linter.unusedVariables false
set_option linter.unusedSimpArgs false

set_option maxHeartbeats 8000000 in
set_option maxRecDepth 100000 in
theorem radd1 (x y : Int) (w : World) (x0 : 0 ≤ x) (x1 : x ≤ 18446744073709551615) (y0 : 0 ≤ y) (y1 : y ≤ 18446744073709551615) :
    Calls Try.prog 59 #[.int .u64 x, .int .u64 y] w fun e w' => e = .returned (.int .u64 (addI x y)) ∧ w = w' := by
  by_cases h : x + y ≤ 18446744073709551615
  · have e1 : addI x y = x + y := by unfold addI; rw [if_pos h]
    have E1 := Lib.hid e1
    have g1 : decide (18446744073709551615 - y < x) = false := by simp; omega
    clear e1
    go_enter Try.func59, Try.ntmps59
    go_wp2_with fail
    go_ret
    exact ⟨ret_int E1.out.symm, rfl⟩
  · have e1 : addI x y = 18446744073709551615 := by unfold addI; rw [if_neg h]
    have E1 := Lib.hid e1
    have g1 : decide (18446744073709551615 - y < x) = true := by simp; omega
    clear e1
    go_enter Try.func59, Try.ntmps59
    go_wp2_with fail
    go_ret
    exact ⟨ret_int E1.out.symm, rfl⟩
theorem sumL_one {x : Int} (h : 0 ≤ x ∧ x ≤ 18446744073709551615) : sumL [x] = x := by
  show addI x 0 = x
  rw [addI, if_pos (by omega)]
  omega
set_option maxHeartbeats 8000000 in
set_option maxRecDepth 100000 in
theorem rSum_any (v : Value) (l : List Int) (w : World) (ok : Nat → Prop) (hv : Lst .u64 w v l ok) (hl : l.length ≤ 1000000) (hg : GoodL l) :
    Calls Try.prog 48 #[v] w fun e w' => e = .returned (.int .u64 (sumL l)) ∧ w = w' := by
  obtain ⟨a, cap, rfl, hc1, hc2, hcell⟩ := hv
  unfold maxLen at hc2
  have HC := Lib.hid hcell
  have HG := Lib.hid hg
  have l0 : (l.length : Int) ≤ 1000000 := by omega
  clear hcell hg
  go_enter Try.func48, Try.ntmps48
  go_wp2_with fail
  go_loop [3, 4] (fun s i => ∃ k : Nat, k ≤ l.length ∧ i = .int .i64 k ∧ s = .int .u64 (sumL (l.take k))) (fun _ i => l.length - (intOf i).toNat)
  case atStart => exact ⟨0, by omega, rfl, rfl⟩
  case round =>
    obtain ⟨k, hk, rfl, rfl⟩ := hrel
    by_cases hlt : k < l.length
    · obtain ⟨p, rfl, hp, _, hcl⟩ := HC.out (by omega)
      have c0 := hcl k hlt
      have e1 := take_snoc_get l k hlt
      have hgk := HG.out.get k hlt
      have e2 : sumL (l.take (k + 1)) = addI (sumL (l.take k)) l[k] := by
        rw [e1, sumL_append (HG.out.take k) (by intro x hx; simp at hx; subst hx; exact hgk), sumL_one hgk]
      have HE := Lib.hid e2
      obtain ⟨s0, s1⟩ := sumL_in (HG.out.take k)
      clear hcl hp e1 e2
      go_wp2_with (go_at_call 59; refine (radd1 _ _ _ s0 s1 hgk.1 hgk.2).mono ?_; rintro e w' ⟨rfl, rfl⟩)
      go_round
      case measure => simp [intOf]; omega
      case rel => exact ⟨k + 1, by omega, by simp, by rw [HE.out]⟩
    · obtain rfl : k = l.length := by omega
      rw [List.take_length]
      go_wp2_with fail
      go_ret
      exact ⟨rfl, rfl⟩
set_option maxHeartbeats 8000000 in
set_option maxRecDepth 100000 in
theorem rOf_any (x : Int) (w : World) (h0 : 0 ≤ x) (h1 : x ≤ 18446744073709551615) :
    Calls Try.prog 49 #[.int .u64 x] w fun e w' => e = .returned (.int .i64 (Lib.bitLen x.toNat)) ∧ w = w' := by
  go_enter Try.func49, Try.ntmps49
  go_wp2_with fail
  go_loop [0, 3] (fun n i => ∃ (c : Int) (k : Nat), 0 ≤ c ∧ c ≤ 18446744073709551615 ∧ n = .int .u64 c ∧ i = .int .i64 k ∧ k + Lib.bitLen c.toNat = Lib.bitLen x.toNat) (fun n _ => (intOf n).toNat)
  case atStart => exact ⟨x, 0, h0, h1, rfl, rfl, by omega⟩
  case round =>
    obtain ⟨c, k, c0, c1, rfl, rfl, he⟩ := hrel
    have hb := Lib.bitLen_le x.toNat 64 (by decide) (by omega)
    have hk : (k : Int) ≤ 64 := by omega
    by_cases hz : 0 < c
    · have g1 : decide (0 < c) = true := by simpa using hz
      have e2 := Lib.bitLen_half c.toNat (by omega) (by omega)
      rw [show c.toNat / 2 = (c / 2).toNat by omega] at e2
      have HE : Hid (k + 1 + Lib.bitLen (c / 2).toNat = Lib.bitLen x.toNat) := by show _ = _; omega
      clear e2 he hb
      go_wp2_with fail
      go_round
      case measure => simp [intOf]; omega
      case rel => exact ⟨c / 2, k + 1, by omega, by omega, rfl, by simp, HE.out⟩
    · obtain rfl : c = 0 := by omega
      have HE : Hid (k = Lib.bitLen x.toNat) := by show _ = _; have : Lib.bitLen (0 : Int).toNat = 0 := by decide
                                                   omega
      clear he hb
      go_wp2_with fail
      go_ret
      exact ⟨ret_int (by rw [HE.out]), rfl⟩
theorem endsI_succ (j : Nat) (h : j < 64) : endsI ((j + 1 : Nat) : Int) = (((2 ^ j : Nat) : Int), ((2 ^ (j + 1) : Nat) : Int) - 1, true) := by
  unfold endsI
  rw [if_neg (by omega), if_neg (by omega)]
  have e1 : (((j + 1 : Nat) : Int) - 1).toNat = j := by omega
  rw [e1]
  refine Prod.ext (by simp) (Prod.ext ?_ rfl)
  show maskI _ = _
  unfold maskI
  split
  · have : j = 63 := by omega
    subst this
    decide
  · rw [show ((j + 1 : Nat) : Int).toNat = j + 1 by omega]
    simp
theorem pow_wrap (j : Nat) (h : j ≤ 62) : IntKind.u64.wrap (2 * 2 ^ j) = 2 ^ (j + 1) := by
  have e : (2 : Int) * 2 ^ j = 2 ^ (j + 1) := by rw [Int.pow_succ]; omega
  rw [e]
  exact wrap_pow1 (j + 1) (by omega)
set_option maxHeartbeats 8000000 in
set_option maxRecDepth 100000 in
theorem rEnds_any (k : Nat) (w : World) (hk : k < 65) :
    Calls Try.prog 66 #[.int .i64 k] w fun e w' => e = .returned (.tuple #[.int .u64 (endsI k).1, .int .u64 (endsI k).2.1, .bool (endsI k).2.2]) ∧ w = w' := by
  have g0 : decide ((k : Int) < 0) = false := by simp
  have g1 : decide (64 < (k : Int)) = false := by simp; omega
  by_cases hz : k = 0
  · subst hz
    go_enter Try.func66, Try.ntmps66
    go_wp2_with fail
    go_ret3
    exact ⟨rfl, rfl⟩
  · obtain ⟨q, rfl⟩ : ∃ q, k = q + 1 := ⟨k - 1, by omega⟩
    rw [endsI_succ q (by omega)]
    have gz : (((q + 1 : Nat) : Int) == 0) = false := by simp; omega
    have hq : q ≤ 63 := by omega
    clear hz
    go_enter Try.func66, Try.ntmps66
    go_wp2_with fail
    go_loop [5, 6] (fun l i => ∃ j : Nat, j ≤ q ∧ i = .int .i64 ((j + 1 : Nat) : Int) ∧ l = .int .u64 ((2 ^ j : Nat) : Int)) (fun _ i => q + 1 - (intOf i).toNat)
    case atStart => exact ⟨0, by omega, rfl, rfl⟩
    case round =>
      obtain ⟨j, hj, rfl, rfl⟩ := hrel
      have hp : (2 : Nat) ^ (j + 1) = 2 * 2 ^ j := by rw [Nat.pow_succ]; omega
      have hp1 : 1 ≤ 2 ^ j := Nat.one_le_two_pow
      have hp2 : (2 : Nat) ^ j ≤ 9223372036854775808 := Nat.pow_le_pow_right (n := 2) (by decide) (show j ≤ 63 by omega)
      obtain ⟨P, hP⟩ : ∃ P : Nat, 2 ^ j = P := ⟨_, rfl⟩
      rw [hP] at hp hp1 hp2 ⊢
      have HP := Lib.hid hP
      have HQ := Lib.hid hp
      have p1 : (1 : Int) ≤ (P : Int) := by omega
      have p2 : (P : Int) ≤ 9223372036854775808 := by omega
      have j1 : ((j + 1 : Nat) : Int) = (j : Int) + 1 := by omega
      clear hP hp hp1 hp2
      by_cases hlt : j < q
      · have g3 : decide (((j + 1 : Nat) : Int) < ((q + 1 : Nat) : Int)) = true := by simp; omega
        have p3 : (P : Int) ≤ 4611686018427387904 := by
          have := Nat.pow_le_pow_right (n := 2) (by decide) (show j ≤ 62 by omega)
          rw [HP.out] at this
          omega
        go_wp2_with fail
        go_round
        case measure => simp [intOf]; omega
        case rel => exact ⟨j + 1, by omega, by simp, by rw [HQ.out]; simp⟩
      · obtain rfl : j = q := by omega
        have g3 : decide (((j + 1 : Nat) : Int) < ((j + 1 : Nat) : Int)) = false := by simp
        go_wp2_with fail
        go_ret3
        refine ⟨?_, rfl⟩
        have E1 : (2 : Int) ^ j = (P : Int) := by have := HP.out; exact_mod_cast this
        have E2 : (2 : Int) ^ (j + 1) = 2 * (P : Int) := by have := HQ.out; exact_mod_cast this
        rw [E1, E2]
        show Ending.returned (.tuple #[.int .u64 (P : Int), .int .u64 ((P : Int) - 1 + P), .bool true]) = _
        rw [show (P : Int) - 1 + P = 2 * P - 1 by omega]
end Go.Proofs.Ytaihebdjhbnhoaa
