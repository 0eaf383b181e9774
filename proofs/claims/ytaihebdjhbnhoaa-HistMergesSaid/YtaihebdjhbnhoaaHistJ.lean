/- Part of a live histogram. -/
import Derived.Test.YtaihebdjhbnhoaaHistI
import Derived.WalkMore
namespace Go.Proofs.Ytaihebdjhbnhoaa
open Go.RowKit
set_option linter.unusedVariables false
set_option linter.unusedSimpArgs false

theorem count_L (b : Nat) (L : List Int) (w : World) (hA : HistAt w b (HsOf L)) (hL : GoodL L) : Calls Try.prog 23 #[.pointer (some ⟨b, 0, none⟩)] w fun e w' => e = .returned (.int .i64 (L.length : Int)) ∧ Below w.heap.size w w' := by
  have h := count_any b (HsOf L) w hA (HsOf_len L)
  rw [HsOf_sums hL] at h
  exact h
theorem sum_L (b : Nat) (L : List Int) (w : World) (hA : HistAt w b (HsOf L)) (hL : GoodL L) : Calls Try.prog 25 #[.pointer (some ⟨b, 0, none⟩)] w fun e w' => e = .returned (.int .u64 (sumL L)) ∧ Below w.heap.size w w' := by
  have h := sum_any b (HsOf L) w hA (HsOf_len L)
  rw [HsOf_sums hL] at h
  exact h
theorem least_L (b : Nat) (L : List Int) (w : World) (hA : HistAt w b (HsOf L)) (hL : GoodL L) : Calls Try.prog 17 #[.pointer (some ⟨b, 0, none⟩)] w fun e w' => e = .returned (.tuple #[.int .u64 (minL L), .bool (decide (0 < (L.length : Int)))]) ∧ Below w.heap.size w w' := by
  have h := least_any b (HsOf L) w hA (HsOf_len L)
  rw [HsOf_sums hL] at h
  exact h
theorem most_L (b : Nat) (L : List Int) (w : World) (hA : HistAt w b (HsOf L)) (hL : GoodL L) : Calls Try.prog 18 #[.pointer (some ⟨b, 0, none⟩)] w fun e w' => e = .returned (.tuple #[.int .u64 (maxL L), .bool (decide (0 < (L.length : Int)))]) ∧ Below w.heap.size w w' := by
  have h := most_any b (HsOf L) w hA (HsOf_len L)
  rw [HsOf_sums hL] at h
  exact h
/-- How many numbers lie in a bucket below one. -/
def cumL (L : List Int) (k : Nat) : Int := (L.countP (fun x => decide (Lib.bitLen x.toNat < k)) : Nat)
theorem cumL_zero (L : List Int) : cumL L 0 = 0 := by simp [cumL]
theorem cumL_succ (L : List Int) (k : Nat) : cumL L (k + 1) = cumL L k + cntL L k := by
  induction L with
  | nil => simp [cumL, cntL]
  | cons x l ih =>
    unfold cumL cntL at *
    simp only [List.countP_cons]
    by_cases h1 : Lib.bitLen x.toNat < k
    · have h2 : Lib.bitLen x.toNat < k + 1 := by omega
      have h3 : (Lib.bitLen x.toNat == k) = false := by simp; omega
      simp only [h1, h2, h3, decide_true, if_true]
      simp; omega
    · by_cases h3 : Lib.bitLen x.toNat = k
      · have h2 : Lib.bitLen x.toNat < k + 1 := by omega
        simp only [h1, h2, h3, decide_true, decide_false, if_true, beq_self_eq_true]
        simp; omega
      · have h2 : ¬ Lib.bitLen x.toNat < k + 1 := by omega
        have h4 : (Lib.bitLen x.toNat == k) = false := by simpa using h3
        simp only [h1, h2, h4, decide_false]
        simp; omega
theorem cumL_mono (L : List Int) {j k : Nat} (h : j ≤ k) : cumL L j ≤ cumL L k := by
  unfold cumL
  have := List.countP_mono_left (l := L) (p := fun x : Int => decide (Lib.bitLen x.toNat < j)) (q := fun x : Int => decide (Lib.bitLen x.toNat < k)) (fun x _ hx => by simp at *; omega)
  omega
theorem cumL_in (L : List Int) (k : Nat) : 0 ≤ cumL L k ∧ cumL L k ≤ L.length := by
  have := List.countP_le_length (p := fun x : Int => decide (Lib.bitLen x.toNat < k)) (l := L)
  unfold cumL
  omega
theorem cumL_all {L : List Int} (h : GoodL L) : cumL L 65 = L.length := by
  unfold cumL
  rw [List.countP_eq_length.2]
  intro x hx
  have := bitLen_lt65 x (h x hx).1 (h x hx).2
  simpa using this
set_option maxHeartbeats 8000000 in
set_option maxRecDepth 100000 in
theorem part_none (b : Nat) (L : List Int) (p : Int) (w : World) (hA : HistAt w b (HsOf L)) (hL : GoodL L) (hp : L = [] ∨ p < 0 ∨ 1000 < p) :
    Calls Try.prog 16 #[.pointer (some ⟨b, 0, none⟩), .int .i64 p] w fun e w' => e = .returned (.tuple #[.int .u64 0, .int .u64 0, .bool false]) ∧ Below w.heap.size w w' := by
  have HA := Lib.hid hA
  have HL := Lib.hid hL
  by_cases h0 : L = []
  · have g0 : ((L.length : Int) == 0) = true := by rw [h0]; rfl
    clear h0 hp hA hL
    go_enter Try.func16, Try.ntmps16
    go_wp2_with fail
    go_step3
    go_wp2_with (go_at_call 23; refine (count_L b L _ HA.out HL.out).mono ?_; rintro e w1 ⟨rfl, hb⟩)
    simp only [Exit.noGoto]
    refine bodyPost_ret (by simp [results, Try.results16, go_sem]; rfl) rfl ?_
    exact ⟨rfl, hb⟩
  · have g0 : ((L.length : Int) == 0) = false := by have := List.length_pos_iff.2 h0; simp; omega
    by_cases h1 : p < 0
    · clear h0 hp hA hL
      go_enter Try.func16, Try.ntmps16
      go_wp2_with fail
      go_step3
      go_wp2_with (go_at_call 23; refine (count_L b L _ HA.out HL.out).mono ?_; rintro e w1 ⟨rfl, hb⟩)
      simp only [Exit.noGoto]
      refine bodyPost_ret (by simp [results, Try.results16, go_sem]; rfl) rfl ?_
      exact ⟨rfl, hb⟩
    · have h2 : 1000 < p := by rcases hp with h | h | h <;> first | exact absurd h h0 | omega
      clear h0 hp hA hL
      go_enter Try.func16, Try.ntmps16
      go_wp2_with fail
      go_step3
      go_wp2_with (go_at_call 23; refine (count_L b L _ HA.out HL.out).mono ?_; rintro e w1 ⟨rfl, hb⟩)
      simp only [Exit.noGoto]
      refine bodyPost_ret (by simp [results, Try.results16, go_sem]; rfl) rfl ?_
      exact ⟨rfl, hb⟩
set_option maxHeartbeats 8000000 in
set_option maxRecDepth 100000 in
theorem part_some (b : Nat) (L : List Int) (p : Int) (w : World) (hA : HistAt w b (HsOf L)) (hL : GoodL L) (hn : L ≠ []) (p0 : 0 ≤ p) (p1 : p ≤ 1000) (hl : L.length ≤ 1000000) (m : Int) (hm : m = max 1 (((L.length : Int) * p + 1000 - 1) / 1000)) (k : Nat) (hk : k < 65) (h1 : cumL L k < m) (h2 : m ≤ cumL L (k + 1)) :
    Calls Try.prog 16 #[.pointer (some ⟨b, 0, none⟩), .int .i64 p] w fun e w' => e = .returned (.tuple #[.int .u64 (endsI k).1, .int .u64 (endsI k).2.1, .bool (endsI k).2.2]) ∧ Below w.heap.size w w' := by
  have l0 : (0 : Int) < (L.length : Int) := by have := List.length_pos_iff.2 hn; omega
  have g0 : ((L.length : Int) == 0) = false := by simp; omega
  have l1 : (L.length : Int) ≤ 1000000 := by omega
  have m0 : (0 : Int) ≤ (L.length : Int) * p := Int.mul_nonneg (by omega) p0
  have m1 : (L.length : Int) * p ≤ 1000000000 := by
    have := Int.mul_le_mul l1 p1 p0 (by omega)
    omega
  have HM := Lib.hid hm
  have HL := Lib.hid hL
  have HA := Lib.hid hA
  clear hn hl hm hL hA
  go_enter Try.func16, Try.ntmps16
  go_wp2_with fail
  go_step3
  go_wp2_with (go_at_call 23; refine (count_L b L _ HA.out HL.out).mono ?_; rintro e w1 ⟨rfl, hb⟩)
  have HB1 := Lib.hid hb
  have HA1 := Lib.hid (HistAt.ext HA.out hb)
  clear hb
  go_step3
  go_wp2_with fail
  have hc0 := cumL_in L k
  go_loop [8, 9] (fun u i => ∃ j : Nat, j ≤ k ∧ i = .int .i64 j ∧ u = .int .i64 (m - cumL L j)) (fun _ i => k - (intOf i).toNat)
  case atStart => exact ⟨0, by omega, rfl, by rw [HM.out, cumL_zero]; simp⟩
  case round =>
    obtain ⟨j, hj, rfl, rfl⟩ := hrel
    have hs := cumL_succ L j
    have hj0 := cumL_in L j
    have hj1 := cntL_in L j
    have hm1 : m ≤ 1000001 := by rw [HM.out]; omega
    have i0 : (0 : Int) ≤ (j : Int) := by omega
    have i1 : (j : Int) < 65 := by omega
    have c0 : w1.cell? ⟨b, 4 + j, none⟩ = some (.int .i64 (cntL L j)) := (RowAt.cell HA1.out (i := 4 + j) (hs_bucket (bucketsL_get L (by omega))))
    by_cases hlt : j < k
    · have hmono := cumL_mono L (show j + 1 ≤ k by omega)
      have t0 : decide (m - cumL L j - cntL L j ≤ 0) = false := by simp; omega
      have q0 : -1000000 ≤ m - cumL L j := by omega
      have q1 : m - cumL L j ≤ 2000001 := by omega
      have q2 : 0 ≤ cntL L j := by omega
      have q3 : cntL L j ≤ 1000000 := by omega
      have HS := Lib.hid hs
      clear hs hj0 hj1 hmono
      go_wp2_with fail
      go_round
      case rel => exact ⟨j + 1, by omega, by simp, by rw [HS.out]; congr 1; omega⟩
      case measure => simp [intOf]; omega
    · obtain rfl : j = k := by omega
      have t0 : decide (m - cumL L j - cntL L j ≤ 0) = true := by simp; omega
      have q0 : -1000000 ≤ m - cumL L j := by omega
      have q1 : m - cumL L j ≤ 2000001 := by omega
      have q2 : 0 ≤ cntL L j := by omega
      have q3 : cntL L j ≤ 1000000 := by omega
      clear hs hj0 hj1
      go_wp2_with (go_at_call 12; refine (ends_any (j : Int) _ (by omega) (by omega)).mono ?_; rintro e w2 ⟨rfl, hb⟩)
      simp only [Exit.noGoto]
      refine bodyPost_ret (by simp [results, Try.results16, go_sem]; rfl) rfl ?_
      exact ⟨rfl, below_then HB1.out hb⟩
end Go.Proofs.Ytaihebdjhbnhoaa
