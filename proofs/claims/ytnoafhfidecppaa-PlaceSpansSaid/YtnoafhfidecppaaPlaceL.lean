/- Places: the walks of the laws PlaceSpans and PlaceOf. -/
import Derived.Test.YtnoafhfidecppaaPlaceK
namespace Go.Proofs.Ytnoafhfidecppaa
open Go.RowKit
set_option linter.unusedVariables false
set_option linter.unusedSimpArgs false

theorem pair_no {a b c d : Int} (h : ¬ (a = c ∧ b = d)) : (a == c) = false ∨ ((a = c) ∧ (b == d) = false) := by
  by_cases e : a = c
  · right
    refine ⟨e, ?_⟩
    have : b ≠ d := fun k => h ⟨e, k⟩
    simpa using this
  · left
    simpa using e
set_option maxHeartbeats 8000000 in
set_option maxRecDepth 100000 in
theorem PlaceSpans_walk (b d : Int) (w : World) (h0 : 0 ≤ b) (h1 : b ≤ 18446744073709551615) (k0 : 0 ≤ d) (k1 : d ≤ 18446744073709551615) :
    Calls Try.prog 3 #[.int .u64 b, .int .u64 d] w fun e w' => e = .returned (.bool true) ∧ Below w.heap.size w w' := by
  have hr := of_right b d h0 h1 k0 k1
  obtain ⟨eB, hF, hT⟩ := (of_iff b d _ _ h0 h1 k0 k1 hr).1 ⟨rfl, rfl⟩
  obtain ⟨r0, r1, r2⟩ := span_range b _ _ h0 h1 eB
  obtain ⟨eF1, eF2⟩ := (of_iff b (spanF b (ofL b d) (ofS b d)) _ _ h0 h1 r0 (by omega) hr).2 ⟨eB, Int.le_refl _, r1⟩
  obtain ⟨eT1, eT2⟩ := (of_iff b (spanT b (ofL b d) (ofS b d)) _ _ h0 h1 (by omega) r2 hr).2 ⟨eB, r1, Int.le_refl _⟩
  have hlow : spanF b (ofL b d) (ofS b d) = 0 ∨ (0 < spanF b (ofL b d) (ofS b d) ∧ ¬ (ofL b (spanF b (ofL b d) (ofS b d) - 1) = ofL b d ∧ ofS b (spanF b (ofL b d) (ofS b d) - 1) = ofS b d)) := by
    rcases Int.lt_or_eq_of_le r0 with hp | hp
    · right
      refine ⟨hp, fun h => ?_⟩
      have := ((of_iff b (spanF b (ofL b d) (ofS b d) - 1) _ _ h0 h1 (by omega) (by omega) hr).1 h).2.1
      omega
    · left; exact hp.symm
  have hhigh : spanT b (ofL b d) (ofS b d) = 18446744073709551615 ∨ (spanT b (ofL b d) (ofS b d) < 18446744073709551615 ∧ ¬ (ofL b (spanT b (ofL b d) (ofS b d) + 1) = ofL b d ∧ ofS b (spanT b (ofL b d) (ofS b d) + 1) = ofS b d)) := by
    rcases Int.lt_or_eq_of_le r2 with hp | hp
    · right
      refine ⟨hp, fun h => ?_⟩
      have := ((of_iff b (spanT b (ofL b d) (ofS b d) + 1) _ _ h0 h1 (by omega) (by omega) hr).1 h).2.2
      omega
    · left; exact hp
  have g1 : decide (d < spanF b (ofL b d) (ofS b d)) = false := by simp; omega
  have g2 : decide (spanT b (ofL b d) (ofS b d) < d) = false := by simp; omega
  clear hr
  have hl3 : (decide (0 < spanF b (ofL b d) (ofS b d)) = false) ∨ (decide (0 < spanF b (ofL b d) (ofS b d)) = true ∧ 0 < spanF b (ofL b d) (ofS b d) ∧ (ofL b (spanF b (ofL b d) (ofS b d) - 1) == ofL b d) = false) ∨ (decide (0 < spanF b (ofL b d) (ofS b d)) = true ∧ 0 < spanF b (ofL b d) (ofS b d) ∧ ofL b (spanF b (ofL b d) (ofS b d) - 1) = ofL b d ∧ (ofS b (spanF b (ofL b d) (ofS b d) - 1) == ofS b d) = false) := by
    rcases hlow with h | ⟨h, hn⟩
    · left; simp; omega
    · right
      rcases pair_no hn with e | ⟨e, e'⟩
      · left; exact ⟨by simpa using h, h, e⟩
      · right; exact ⟨by simpa using h, h, e, e'⟩
  have hh3 : ((spanT b (ofL b d) (ofS b d) == 18446744073709551615) = true) ∨ ((spanT b (ofL b d) (ofS b d) == 18446744073709551615) = false ∧ spanT b (ofL b d) (ofS b d) < 18446744073709551615 ∧ (ofL b (spanT b (ofL b d) (ofS b d) + 1) == ofL b d) = false) ∨ ((spanT b (ofL b d) (ofS b d) == 18446744073709551615) = false ∧ spanT b (ofL b d) (ofS b d) < 18446744073709551615 ∧ ofL b (spanT b (ofL b d) (ofS b d) + 1) = ofL b d ∧ (ofS b (spanT b (ofL b d) (ofS b d) + 1) == ofS b d) = false) := by
    rcases hhigh with h | ⟨h, hn⟩
    · left; simpa using h
    · right
      rcases pair_no hn with e | ⟨e, e'⟩
      · left; exact ⟨by simp; omega, h, e⟩
      · right; exact ⟨by simp; omega, h, e, e'⟩
  clear hlow hhigh
  rcases hl3 with t1 | ⟨t1, t2, t3⟩ | ⟨t1, t2, t3, t4⟩ <;> rcases hh3 with s1 | ⟨s1, s2, s3⟩ | ⟨s1, s2, s3, s4⟩
  all_goals
    go_enter Try.func3, Try.ntmps3
    refine wp_start ?_
    intro x
    go_wp2_with (first | (go_at_call 8; refine (of_any _ _ _ (by omega) (by omega) (by omega) (by omega)).mono ?_; rintro e wr ⟨rfl, hbr⟩; obtain ⟨y, rfl⟩ := Ext.step _ hbr; clear hbr))
    refine calls_box ?_
    intro W hB hb _
    obtain ⟨hc, hf⟩ := Ext.cells hb
    refine (span_any _ _ _ _ h0 h1).mono ?_
    rintro e wr ⟨rfl, hbr⟩
    obtain ⟨y, rfl⟩ := Ext.of hbr
    clear hbr
    go_wp2_with fail
    refine wp_region_ext y (by kernel_rfl) (by kernel_rfl) ?_
    repeat (go_big_quiet_step ((first | (go_at_call 8; refine Ext.call (of_any _ _ _ (by omega) (by omega) (by omega) (by omega))))))
    refine wpQuiet_nil ?_
    rintro _ ⟨y2, rfl⟩
    go_wp2_with fail
    refine wp_region_ext y2 (by kernel_rfl) (by kernel_rfl) ?_
    repeat (go_big_quiet_step ((first | (go_at_call 8; refine Ext.call (of_any _ _ _ (by omega) (by omega) (by omega) (by omega))))))
    refine wpQuiet_nil ?_
    rintro _ ⟨y3, rfl⟩
    go_wp2_with fail
    refine wp_region_ext y3 (by kernel_rfl) (by kernel_rfl) ?_
    repeat (go_big_quiet_step ((first | (go_at_call 8; refine Ext.call (of_any _ _ _ (by omega) (by omega) (by omega) (by omega))) | (go_at_call 10; refine Ext.call (known18 _)))))
    refine wpQuiet_nil ?_
    rintro _ ⟨y4, rfl⟩
    go_wp2_with fail
    go_ret
    exact ⟨rfl, below_then (below_then (Ext.ok _) hB) (Ext.ok _)⟩
end Go.Proofs.Ytnoafhfidecppaa
