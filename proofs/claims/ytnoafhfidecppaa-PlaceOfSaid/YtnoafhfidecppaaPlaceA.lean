/- Places: Late, Far, Of, Right, Less, Span, Touched: what each call comes to. -/
import Derived.Test.YtnoafhfidecppaaBitsA
namespace Go.Proofs.Ytnoafhfidecppaa
open Go.RowKit
set_option linter.unusedVariables false
set_option linter.unusedSimpArgs false

set_option maxHeartbeats 400000 in
theorem late_any (w : World) : Calls Try.prog 12 #[] w fun e w' => e = .returned (.agg #[.int .i64 (-1), .int .i64 0]) ∧ Below w.heap.size w w' := by
  go_enter Try.func12, Try.ntmps12
  go_wp2
  exact bodyPost_ret (v := .agg #[.int .i64 (-1), .int .i64 0]) (by simp [results, Try.results12, go_sem]) rfl ⟨rfl, below_new (Below.refl _ _) _⟩
set_option maxHeartbeats 400000 in
theorem far_any (w : World) : Calls Try.prog 13 #[] w fun e w' => e = .returned (.agg #[.int .i64 8, .int .i64 0]) ∧ Below w.heap.size w w' := by
  go_enter Try.func13, Try.ntmps13
  go_wp2
  exact bodyPost_ret (v := .agg #[.int .i64 8, .int .i64 0]) (by simp [results, Try.results13, go_sem]) rfl ⟨rfl, below_new (Below.refl _ _) _⟩

/-! ### Of -/
def ofL (b d : Int) : Int := if d ≤ b then -1 else if 8 ≤ topI b d then 8 else topI b d
def ofS (b d : Int) : Int := if d ≤ b then 0 else if 8 ≤ topI b d then 0 else digitI d (topI b d)
set_option maxHeartbeats 1000000 in
set_option maxRecDepth 100000 in
theorem of_any (b d : Int) (w : World) (h0 : 0 ≤ b) (h1 : b ≤ 18446744073709551615) (k0 : 0 ≤ d) (k1 : d ≤ 18446744073709551615) :
    Calls Try.prog 8 #[.int .u64 b, .int .u64 d] w fun e w' => e = .returned (.agg #[.int .i64 (ofL b d), .int .i64 (ofS b d)]) ∧ Below w.heap.size w w' := by
  go_enter Try.func8, Try.ntmps8
  go_wp2_with fail
  · have hd : d ≤ b := by assumption
    refine calls_box ?_
    intro W hB hb _
    refine (late_any _).mono ?_
    rintro e w1 ⟨rfl, hb1⟩
    obtain ⟨x, rfl⟩ := Ext.of hb1
    obtain ⟨hc, hf⟩ := Ext.cells hb
    go_wp2_with fail
    refine bodyPost_ret (v := .agg #[.int .i64 (-1), .int .i64 0]) (by simp [results, Try.results8, go_sem, hc]) rfl ⟨by rw [ofL, ofS, if_pos hd, if_pos hd], ?_⟩
    exact below_set (below_set (below_then hB x.ok) (Nat.le_refl _) _) (Nat.le_refl _) _
  · have hd : b < d := by assumption
    refine calls_box ?_
    intro W hB hb _
    refine (top_any _ _ _ h0 h1 k0 k1).mono ?_
    rintro e w1 ⟨rfl, hb1⟩
    obtain ⟨x, rfl⟩ := Ext.of hb1
    obtain ⟨hc, hf⟩ := Ext.cells hb
    go_wp2_with fail
    · have hk : 8 ≤ topI b d := by assumption
      refine (far_any _).mono ?_
      rintro e w2 ⟨rfl, hb2⟩
      obtain ⟨y, rfl⟩ := x.step hb2
      go_wp2_with fail
      refine bodyPost_ret (v := .agg #[.int .i64 8, .int .i64 0]) (by simp [results, Try.results8, go_sem, hc]) rfl ⟨by rw [ofL, ofS, if_neg (by omega), if_pos hk, if_neg (by omega), if_pos hk], ?_⟩
      exact below_set (below_set (below_then hB y.ok) (Nat.le_refl _) _) (Nat.le_refl _) _
    · have hk : topI b d < 8 := by assumption
      refine (digit_any _ _ _ k0 k1).mono ?_
      rintro e w2 ⟨rfl, hb2⟩
      obtain ⟨y, rfl⟩ := x.step hb2
      go_wp2_with fail
      refine bodyPost_ret (v := .agg #[.int .i64 (topI b d), .int .i64 (digitI d (topI b d))]) (by simp [results, Try.results8, go_sem, hc]) rfl ⟨by rw [ofL, ofS, if_neg (by omega), if_neg (by omega), if_neg (by omega), if_neg (by omega)], ?_⟩
      exact below_set (below_set (below_then hB y.ok) (Nat.le_refl _) _) (Nat.le_refl _) _

/-! ### Right -/
set_option maxHeartbeats 400000 in
theorem within_yes (n lo hi : Int) (w : World) (h1 : lo ≤ n) (h2 : n < hi) :
    Calls Try.prog 33 #[.int .i64 n, .int .i64 lo, .int .i64 hi] w fun e w' => e = .returned (.bool true) ∧ Below w.heap.size w w' := by
  have g1 : decide (lo ≤ n) = true := by simpa using h1
  go_enter Try.func33, Try.ntmps33
  go_wp2
  go_ret
  exact ⟨rfl, Below.refl _ _⟩
set_option maxHeartbeats 400000 in
theorem within_no (n lo hi : Int) (w : World) (h : n < lo ∨ hi ≤ n) :
    Calls Try.prog 33 #[.int .i64 n, .int .i64 lo, .int .i64 hi] w fun e w' => e = .returned (.bool false) ∧ Below w.heap.size w w' := by
  by_cases h1 : lo ≤ n
  · have g1 : decide (lo ≤ n) = true := by simpa using h1
    go_enter Try.func33, Try.ntmps33
    go_wp2
    go_ret
    exact ⟨ret_bool (show decide (n < hi) = false by simp; omega), Below.refl _ _⟩
  · have g1 : decide (lo ≤ n) = false := by simpa using h1
    go_enter Try.func33, Try.ntmps33
    go_wp2
    go_ret
    exact ⟨rfl, Below.refl _ _⟩
def rightB (l s : Int) : Bool := (l == -1 && s == 0) || (l == 8 && s == 0) || (decide (0 ≤ l) && decide (l < 8) && decide (1 ≤ s) && decide (s < 64))
set_option maxHeartbeats 2000000 in
set_option maxRecDepth 100000 in
theorem right_any (l s : Int) (w : World) :
    Calls Try.prog 15 #[.agg #[.int .i64 l, .int .i64 s]] w fun e w' => e = .returned (.bool (rightB l s)) ∧ Below w.heap.size w w' := by
  have hcs : (l = -1 ∧ s = 0) ∨ (l = 8 ∧ s = 0) ∨ (l = -1 ∧ s ≠ 0) ∨ (l = 8 ∧ s ≠ 0) ∨ (0 ≤ l ∧ l < 8 ∧ 1 ≤ s ∧ s < 64) ∨ (0 ≤ l ∧ l < 8 ∧ (s < 1 ∨ 64 ≤ s)) ∨ (l ≠ -1 ∧ l ≠ 8 ∧ (l < 0 ∨ 8 ≤ l)) := by omega
  rcases hcs with ⟨rfl, rfl⟩ | ⟨rfl, rfl⟩ | ⟨rfl, hs⟩ | ⟨rfl, hs⟩ | ⟨h1, h2, h3, h4⟩ | ⟨h1, h2, h3⟩ | ⟨h1, h2, h3⟩
  ·
    go_enter Try.func15, Try.ntmps15
    go_wp2_with fail
    refine wp_box ?_
    intro W hB hb _
    obtain ⟨hc, hf⟩ := Ext.cells hb
    refine wp_start ?_
    intro x
    refine wp_region_ext x (by kernel_rfl) (by kernel_rfl) ?_
    repeat (go_big_quiet_step ((go_at_call 12; refine Ext.call (late_any _))))
    refine wpQuiet_nil ?_
    rintro _ ⟨y, rfl⟩
    go_wp2_with fail
    go_ret
    exact ⟨rfl, below_then hB y.ok⟩
  ·
    go_enter Try.func15, Try.ntmps15
    go_wp2_with fail
    refine wp_box ?_
    intro W hB hb _
    obtain ⟨hc, hf⟩ := Ext.cells hb
    refine wp_start ?_
    intro x
    refine wp_region_ext x (by kernel_rfl) (by kernel_rfl) ?_
    repeat (go_big_quiet_step ((go_at_call 12; refine Ext.call (late_any _))))
    refine wpQuiet_nil ?_
    rintro _ ⟨y, rfl⟩
    go_wp2_with fail
    refine wp_region_ext y (by kernel_rfl) (by kernel_rfl) ?_
    repeat (go_big_quiet_step ((go_at_call 13; refine Ext.call (far_any _))))
    refine wpQuiet_nil ?_
    rintro _ ⟨z, rfl⟩
    go_wp2_with fail
    go_ret
    exact ⟨rfl, below_then hB z.ok⟩
  · have g1 : (s == 0) = false := by simpa using hs
    go_enter Try.func15, Try.ntmps15
    go_wp2_with fail
    refine wp_box ?_
    intro W hB hb _
    obtain ⟨hc, hf⟩ := Ext.cells hb
    refine wp_start ?_
    intro x
    refine wp_region_ext x (by kernel_rfl) (by kernel_rfl) ?_
    repeat (go_big_quiet_step ((go_at_call 12; refine Ext.call (late_any _))))
    refine wpQuiet_nil ?_
    rintro _ ⟨y, rfl⟩
    go_wp2_with fail
    refine wp_region_ext y (by kernel_rfl) (by kernel_rfl) ?_
    repeat (go_big_quiet_step ((go_at_call 13; refine Ext.call (far_any _))))
    refine wpQuiet_nil ?_
    rintro _ ⟨z, rfl⟩
    go_wp2_with fail
    refine (within_no _ _ _ _ (by omega)).mono ?_
    rintro e w1 ⟨rfl, hb1⟩
    obtain ⟨u, rfl⟩ := z.step hb1
    go_wp2_with fail
    go_ret
    exact ⟨ret_bool (show false = rightB _ s by simp [rightB]; omega), below_then hB u.ok⟩
  · have g1 : (s == 0) = false := by simpa using hs
    go_enter Try.func15, Try.ntmps15
    go_wp2_with fail
    refine wp_box ?_
    intro W hB hb _
    obtain ⟨hc, hf⟩ := Ext.cells hb
    refine wp_start ?_
    intro x
    refine wp_region_ext x (by kernel_rfl) (by kernel_rfl) ?_
    repeat (go_big_quiet_step ((go_at_call 12; refine Ext.call (late_any _))))
    refine wpQuiet_nil ?_
    rintro _ ⟨y, rfl⟩
    go_wp2_with fail
    refine wp_region_ext y (by kernel_rfl) (by kernel_rfl) ?_
    repeat (go_big_quiet_step ((go_at_call 13; refine Ext.call (far_any _))))
    refine wpQuiet_nil ?_
    rintro _ ⟨z, rfl⟩
    go_wp2_with fail
    refine (within_no _ _ _ _ (by omega)).mono ?_
    rintro e w1 ⟨rfl, hb1⟩
    obtain ⟨u, rfl⟩ := z.step hb1
    go_wp2_with fail
    go_ret
    exact ⟨ret_bool (show false = rightB _ s by simp [rightB]; omega), below_then hB u.ok⟩
  · have g1 : (l == -1) = false := by simp; omega
    have g2 : (l == 8) = false := by simp; omega
    go_enter Try.func15, Try.ntmps15
    go_wp2_with fail
    refine wp_box ?_
    intro W hB hb _
    obtain ⟨hc, hf⟩ := Ext.cells hb
    refine wp_start ?_
    intro x
    refine wp_region_ext x (by kernel_rfl) (by kernel_rfl) ?_
    repeat (go_big_quiet_step ((go_at_call 12; refine Ext.call (late_any _))))
    refine wpQuiet_nil ?_
    rintro _ ⟨y, rfl⟩
    go_wp2_with fail
    refine wp_region_ext y (by kernel_rfl) (by kernel_rfl) ?_
    repeat (go_big_quiet_step ((go_at_call 13; refine Ext.call (far_any _))))
    refine wpQuiet_nil ?_
    rintro _ ⟨z, rfl⟩
    go_wp2_with fail
    refine (within_yes _ _ _ _ (by omega) (by omega)).mono ?_
    rintro e w1 ⟨rfl, hb1⟩
    obtain ⟨u, rfl⟩ := z.step hb1
    go_wp2_with fail
    refine (within_yes _ _ _ _ (by omega) (by omega)).mono ?_
    rintro e w2 ⟨rfl, hb2⟩
    obtain ⟨v, rfl⟩ := u.step hb2
    go_wp2_with fail
    go_ret
    exact ⟨ret_bool (show true = rightB l s by simp [rightB]; omega), below_then hB v.ok⟩
  · have g1 : (l == -1) = false := by simp; omega
    have g2 : (l == 8) = false := by simp; omega
    go_enter Try.func15, Try.ntmps15
    go_wp2_with fail
    refine wp_box ?_
    intro W hB hb _
    obtain ⟨hc, hf⟩ := Ext.cells hb
    refine wp_start ?_
    intro x
    refine wp_region_ext x (by kernel_rfl) (by kernel_rfl) ?_
    repeat (go_big_quiet_step ((go_at_call 12; refine Ext.call (late_any _))))
    refine wpQuiet_nil ?_
    rintro _ ⟨y, rfl⟩
    go_wp2_with fail
    refine wp_region_ext y (by kernel_rfl) (by kernel_rfl) ?_
    repeat (go_big_quiet_step ((go_at_call 13; refine Ext.call (far_any _))))
    refine wpQuiet_nil ?_
    rintro _ ⟨z, rfl⟩
    go_wp2_with fail
    refine (within_yes _ _ _ _ (by omega) (by omega)).mono ?_
    rintro e w1 ⟨rfl, hb1⟩
    obtain ⟨u, rfl⟩ := z.step hb1
    go_wp2_with fail
    refine (within_no _ _ _ _ (by omega)).mono ?_
    rintro e w2 ⟨rfl, hb2⟩
    obtain ⟨v, rfl⟩ := u.step hb2
    go_wp2_with fail
    go_ret
    exact ⟨ret_bool (show false = rightB l s by simp [rightB]; omega), below_then hB v.ok⟩
  · have g1 : (l == -1) = false := by simpa using h1
    have g2 : (l == 8) = false := by simpa using h2
    go_enter Try.func15, Try.ntmps15
    go_wp2_with fail
    refine wp_box ?_
    intro W hB hb _
    obtain ⟨hc, hf⟩ := Ext.cells hb
    refine wp_start ?_
    intro x
    refine wp_region_ext x (by kernel_rfl) (by kernel_rfl) ?_
    repeat (go_big_quiet_step ((go_at_call 12; refine Ext.call (late_any _))))
    refine wpQuiet_nil ?_
    rintro _ ⟨y, rfl⟩
    go_wp2_with fail
    refine wp_region_ext y (by kernel_rfl) (by kernel_rfl) ?_
    repeat (go_big_quiet_step ((go_at_call 13; refine Ext.call (far_any _))))
    refine wpQuiet_nil ?_
    rintro _ ⟨z, rfl⟩
    go_wp2_with fail
    refine (within_no _ _ _ _ (by omega)).mono ?_
    rintro e w1 ⟨rfl, hb1⟩
    obtain ⟨u, rfl⟩ := z.step hb1
    go_wp2_with fail
    go_ret
    exact ⟨ret_bool (show false = rightB l s by simp [rightB]; omega), below_then hB u.ok⟩
end Go.Proofs.Ytnoafhfidecppaa
