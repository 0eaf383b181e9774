/- Places: Less, Span, Touched: what each call comes to; the document's own Power, Of and Span. -/
import Derived.Test.YtnoafhfidecppaaPlaceA
namespace Go.Proofs.Ytnoafhfidecppaa
open Go.RowKit
set_option linter.unusedVariables false
set_option linter.unusedSimpArgs false

def lessB (l1 s1 l2 s2 : Int) : Bool := if l1 != l2 then decide (l1 < l2) else decide (s1 < s2)
set_option maxHeartbeats 2000000 in
set_option maxRecDepth 100000 in
theorem less_any (l1 s1 l2 s2 : Int) (w : World) :
    Calls Try.prog 17 #[.agg #[.int .i64 l1, .int .i64 s1], .agg #[.int .i64 l2, .int .i64 s2]] w fun e w' => e = .returned (.bool (lessB l1 s1 l2 s2)) ∧ Below w.heap.size w w' := by
  by_cases h : l1 = l2
  · subst h
    go_enter Try.func17, Try.ntmps17
    go_wp2
    go_ret
    exact ⟨ret_bool (show decide (s1 < s2) = lessB l1 s1 l1 s2 by simp [lessB]), below_new (below_new (Below.refl _ _) _) _⟩
  · have g : (l1 != l2) = true := by simpa using h
    go_enter Try.func17, Try.ntmps17
    go_wp2
    go_ret
    exact ⟨ret_bool (show decide (l1 < l2) = lessB l1 s1 l2 s2 by simp [lessB, h]), below_new (below_new (Below.refl _ _) _) _⟩

/-! ### Span -/
def spanB (b l s : Int) : Bool := rightB l s && (if l = -1 then true else if l = 8 then decide (b / 281474976710656 < 65535) else decide (digitI b l < s))
def spanF (b l s : Int) : Int := if spanB b l s = false then 0 else if l = -1 then 0 else if l = 8 then (b / 281474976710656 + 1) * 281474976710656 else withI b l s
def spanT (b l s : Int) : Int := if spanB b l s = false then 0 else if l = -1 then b else if l = 8 then 18446744073709551615 else bits .or .u64 (withI b l s) (maskI (6 * l))
theorem right_cases (l s : Int) : (rightB l s = false) ∨ (l = -1 ∧ s = 0) ∨ (l = 8 ∧ s = 0) ∨ (0 ≤ l ∧ l < 8 ∧ 1 ≤ s ∧ s < 64) := by
  simp [rightB]; omega
theorem right_in {l s : Int} (h1 : 0 ≤ l) (h2 : l < 8) (h3 : 1 ≤ s) (h4 : s < 64) : rightB l s = true := by simp [rightB]; omega
set_option maxHeartbeats 2000000 in
set_option maxRecDepth 100000 in
theorem span_none (b l s : Int) (w : World) (h0 : 0 ≤ b) (h1 : b ≤ 18446744073709551615) (hr : rightB l s = false) :
    Calls Try.prog 9 #[.int .u64 b, .agg #[.int .i64 l, .int .i64 s]] w fun e w' => e = .returned (.tuple #[.int .u64 0, .int .u64 0, .bool false]) ∧ Below w.heap.size w w' := by
  go_enter Try.func9, Try.ntmps9
  go_wp2_with fail
  refine calls_box ?_
  intro W hB hb _
  obtain ⟨hc, hf⟩ := Ext.cells hb
  refine (right_any _ _ _).mono ?_
  rintro e wr1 ⟨rfl, hbr1⟩
  obtain ⟨x1, rfl⟩ := Ext.of hbr1
  go_wp2_with fail
  go_ret3
  exact ⟨rfl, below_then hB x1.ok⟩
set_option maxHeartbeats 2000000 in
set_option maxRecDepth 100000 in
theorem span_late (b : Int) (w : World) (h0 : 0 ≤ b) (h1 : b ≤ 18446744073709551615) :
    Calls Try.prog 9 #[.int .u64 b, .agg #[.int .i64 (-1), .int .i64 0]] w fun e w' => e = .returned (.tuple #[.int .u64 0, .int .u64 b, .bool true]) ∧ Below w.heap.size w w' := by
  have hr : rightB (-1) 0 = true := rfl
  go_enter Try.func9, Try.ntmps9
  go_wp2_with fail
  refine calls_box ?_
  intro W hB hb _
  obtain ⟨hc, hf⟩ := Ext.cells hb
  refine (right_any _ _ _).mono ?_
  rintro e wr1 ⟨rfl, hbr1⟩
  obtain ⟨x1, rfl⟩ := Ext.of hbr1
  go_wp2_with fail
  refine wp_region_ext x1 (by kernel_rfl) (by kernel_rfl) ?_
  repeat (go_big_quiet_step (((go_at_call 12; refine Ext.call (late_any _)))))
  refine wpQuiet_nil ?_
  rintro _ ⟨x2, rfl⟩
  go_wp2_with fail
  go_ret3
  exact ⟨rfl, below_then hB x2.ok⟩
set_option maxHeartbeats 2000000 in
set_option maxRecDepth 100000 in
theorem span_far_no (b : Int) (w : World) (h0 : 0 ≤ b) (h1 : b ≤ 18446744073709551615) (hq : 65535 ≤ b / 281474976710656) :
    Calls Try.prog 9 #[.int .u64 b, .agg #[.int .i64 8, .int .i64 0]] w fun e w' => e = .returned (.tuple #[.int .u64 0, .int .u64 0, .bool false]) ∧ Below w.heap.size w w' := by
  have hr : rightB 8 0 = true := rfl
  have hq2 : b / 281474976710656 = 65535 := by omega
  go_enter Try.func9, Try.ntmps9
  go_wp2_with fail
  refine calls_box ?_
  intro W hB hb _
  obtain ⟨hc, hf⟩ := Ext.cells hb
  refine (right_any _ _ _).mono ?_
  rintro e wr1 ⟨rfl, hbr1⟩
  obtain ⟨x1, rfl⟩ := Ext.of hbr1
  go_wp2_with fail
  refine wp_region_ext x1 (by kernel_rfl) (by kernel_rfl) ?_
  repeat (go_big_quiet_step (((go_at_call 12; refine Ext.call (late_any _)))))
  refine wpQuiet_nil ?_
  rintro _ ⟨x2, rfl⟩
  go_wp2_with fail
  refine wp_region_ext x2 (by kernel_rfl) (by kernel_rfl) ?_
  repeat (go_big_quiet_step (((go_at_call 13; refine Ext.call (far_any _)))))
  refine wpQuiet_nil ?_
  rintro _ ⟨x3, rfl⟩
  go_wp2_with fail
  go_ret3
  exact ⟨rfl, below_then hB x3.ok⟩
set_option maxHeartbeats 2000000 in
set_option maxRecDepth 100000 in
theorem span_far_yes (b : Int) (w : World) (h0 : 0 ≤ b) (h1 : b ≤ 18446744073709551615) (hq : b / 281474976710656 < 65535) :
    Calls Try.prog 9 #[.int .u64 b, .agg #[.int .i64 8, .int .i64 0]] w fun e w' => e = .returned (.tuple #[.int .u64 ((b / 281474976710656 + 1) * 281474976710656), .int .u64 18446744073709551615, .bool true]) ∧ Below w.heap.size w w' := by
  have hr : rightB 8 0 = true := rfl
  have hz : ((b / 281474976710656 + 1) * 281474976710656 == 0) = false := by simp; omega
  go_enter Try.func9, Try.ntmps9
  go_wp2_with fail
  refine calls_box ?_
  intro W hB hb _
  obtain ⟨hc, hf⟩ := Ext.cells hb
  refine (right_any _ _ _).mono ?_
  rintro e wr1 ⟨rfl, hbr1⟩
  obtain ⟨x1, rfl⟩ := Ext.of hbr1
  go_wp2_with fail
  refine wp_region_ext x1 (by kernel_rfl) (by kernel_rfl) ?_
  repeat (go_big_quiet_step (((go_at_call 12; refine Ext.call (late_any _)))))
  refine wpQuiet_nil ?_
  rintro _ ⟨x2, rfl⟩
  go_wp2_with fail
  refine wp_region_ext x2 (by kernel_rfl) (by kernel_rfl) ?_
  repeat (go_big_quiet_step (((go_at_call 13; refine Ext.call (far_any _)))))
  refine wpQuiet_nil ?_
  rintro _ ⟨x3, rfl⟩
  go_wp2_with fail
  go_ret3
  exact ⟨rfl, below_then hB x3.ok⟩
set_option maxHeartbeats 2000000 in
set_option maxRecDepth 100000 in
theorem span_in_no (b l s : Int) (w : World) (h0 : 0 ≤ b) (h1 : b ≤ 18446744073709551615) (hl0 : 0 ≤ l) (hl8 : l < 8) (hs1 : 1 ≤ s) (hs64 : s < 64) (hd : s ≤ digitI b l) :
    Calls Try.prog 9 #[.int .u64 b, .agg #[.int .i64 l, .int .i64 s]] w fun e w' => e = .returned (.tuple #[.int .u64 0, .int .u64 0, .bool false]) ∧ Below w.heap.size w w' := by
  have hr := right_in hl0 hl8 hs1 hs64
  have g1 : (l == -1) = false := by simp; omega
  have g2 : (l == 8) = false := by simp; omega
  have g3 : decide (s ≤ digitI b l) = true := by simpa using hd
  go_enter Try.func9, Try.ntmps9
  go_wp2_with fail
  refine calls_box ?_
  intro W hB hb _
  obtain ⟨hc, hf⟩ := Ext.cells hb
  refine (right_any _ _ _).mono ?_
  rintro e wr1 ⟨rfl, hbr1⟩
  obtain ⟨x1, rfl⟩ := Ext.of hbr1
  go_wp2_with fail
  refine wp_region_ext x1 (by kernel_rfl) (by kernel_rfl) ?_
  repeat (go_big_quiet_step (((go_at_call 12; refine Ext.call (late_any _)))))
  refine wpQuiet_nil ?_
  rintro _ ⟨x2, rfl⟩
  go_wp2_with fail
  refine wp_region_ext x2 (by kernel_rfl) (by kernel_rfl) ?_
  repeat (go_big_quiet_step (((go_at_call 13; refine Ext.call (far_any _)))))
  refine wpQuiet_nil ?_
  rintro _ ⟨x3, rfl⟩
  go_wp2_with fail
  refine wp_region_ext x3 (by kernel_rfl) (by kernel_rfl) ?_
  repeat (go_big_quiet_step (((go_at_call 29; refine Ext.call (digit_any _ _ _ h0 h1)))))
  refine wpQuiet_nil ?_
  rintro _ ⟨x4, rfl⟩
  go_wp2_with fail
  go_ret3
  exact ⟨rfl, below_then hB x4.ok⟩
set_option maxHeartbeats 2000000 in
set_option maxRecDepth 100000 in
theorem span_in_yes (b l s : Int) (w : World) (h0 : 0 ≤ b) (h1 : b ≤ 18446744073709551615) (hl0 : 0 ≤ l) (hl8 : l < 8) (hs1 : 1 ≤ s) (hs64 : s < 64) (hd : digitI b l < s) :
    Calls Try.prog 9 #[.int .u64 b, .agg #[.int .i64 l, .int .i64 s]] w fun e w' => e = .returned (.tuple #[.int .u64 (withI b l s), .int .u64 (bits .or .u64 (withI b l s) (maskI (6 * l))), .bool true]) ∧ Below w.heap.size w w' := by
  have hr := right_in hl0 hl8 hs1 hs64
  have g1 : (l == -1) = false := by simp; omega
  have g2 : (l == 8) = false := by simp; omega
  have g3 : decide (s ≤ digitI b l) = false := by simp; omega
  go_enter Try.func9, Try.ntmps9
  go_wp2_with fail
  refine calls_box ?_
  intro W hB hb _
  obtain ⟨hc, hf⟩ := Ext.cells hb
  refine (right_any _ _ _).mono ?_
  rintro e wr1 ⟨rfl, hbr1⟩
  obtain ⟨x1, rfl⟩ := Ext.of hbr1
  go_wp2_with fail
  refine wp_region_ext x1 (by kernel_rfl) (by kernel_rfl) ?_
  repeat (go_big_quiet_step (((go_at_call 12; refine Ext.call (late_any _)))))
  refine wpQuiet_nil ?_
  rintro _ ⟨x2, rfl⟩
  go_wp2_with fail
  refine wp_region_ext x2 (by kernel_rfl) (by kernel_rfl) ?_
  repeat (go_big_quiet_step (((go_at_call 13; refine Ext.call (far_any _)))))
  refine wpQuiet_nil ?_
  rintro _ ⟨x3, rfl⟩
  go_wp2_with fail
  refine wp_region_ext x3 (by kernel_rfl) (by kernel_rfl) ?_
  repeat (go_big_quiet_step (((go_at_call 29; refine Ext.call (digit_any _ _ _ h0 h1)))))
  refine wpQuiet_nil ?_
  rintro _ ⟨x4, rfl⟩
  go_wp2_with fail
  refine (with_any _ _ _ _ h0 h1).mono ?_
  rintro e wr5 ⟨rfl, hbr5⟩
  obtain ⟨x5, rfl⟩ := x4.step hbr5
  go_wp2_with fail
  refine (mask_any _ _).mono ?_
  rintro e wr6 ⟨rfl, hbr6⟩
  obtain ⟨x6, rfl⟩ := x5.step hbr6
  go_wp2_with fail
  go_ret3
  exact ⟨rfl, below_then hB x6.ok⟩
theorem span_any (b l s : Int) (w : World) (h0 : 0 ≤ b) (h1 : b ≤ 18446744073709551615) :
    Calls Try.prog 9 #[.int .u64 b, .agg #[.int .i64 l, .int .i64 s]] w fun e w' => e = .returned (.tuple #[.int .u64 (spanF b l s), .int .u64 (spanT b l s), .bool (spanB b l s)]) ∧ Below w.heap.size w w' := by
  rcases right_cases l s with hr | ⟨rfl, rfl⟩ | ⟨rfl, rfl⟩ | ⟨hl0, hl8, hs1, hs64⟩
  · have e1 : spanB b l s = false := by simp [spanB, hr]
    rw [spanF, spanT, e1, if_pos rfl, if_pos rfl]
    exact span_none b l s w h0 h1 hr
  · have e1 : spanB b (-1) 0 = true := by simp [spanB, rightB]
    rw [spanF, spanT, e1]
    exact span_late b w h0 h1
  · by_cases hq : b / 281474976710656 < 65535
    · have e1 : spanB b 8 0 = true := by simp [spanB, rightB, hq]
      rw [spanF, spanT, e1]
      exact span_far_yes b w h0 h1 hq
    · have e1 : spanB b 8 0 = false := by simp [spanB, rightB]; omega
      rw [spanF, spanT, e1, if_pos rfl, if_pos rfl]
      exact span_far_no b w h0 h1 (by omega)
  · have hr := right_in hl0 hl8 hs1 hs64
    have n1 : ¬ l = -1 := by omega
    have n2 : ¬ l = 8 := by omega
    by_cases hd : digitI b l < s
    · have e1 : spanB b l s = true := by simp [spanB, hr, n1, n2, hd]
      rw [spanF, spanT, e1, if_neg (by simp), if_neg n1, if_neg n2, if_neg (by simp), if_neg n1, if_neg n2]
      exact span_in_yes b l s w h0 h1 hl0 hl8 hs1 hs64 hd
    · have e1 : spanB b l s = false := by simp [spanB, hr, n1, n2]; omega
      rw [spanF, spanT, e1, if_pos rfl, if_pos rfl]
      exact span_in_no b l s w h0 h1 hl0 hl8 hs1 hs64 (by omega)
def touchB (b to l s : Int) : Bool := spanB b l s && decide (spanF b l s ≤ to)
set_option maxHeartbeats 2000000 in
set_option maxRecDepth 100000 in
theorem touched_any (b to l s : Int) (w : World) (h0 : 0 ≤ b) (h1 : b ≤ 18446744073709551615) :
    Calls Try.prog 16 #[.int .u64 b, .int .u64 to, .agg #[.int .i64 l, .int .i64 s]] w fun e w' => e = .returned (.bool (touchB b to l s)) ∧ Below w.heap.size w w' := by
  rcases Bool.eq_false_or_eq_true (spanB b l s) with hs | hs
  all_goals
    go_enter Try.func16, Try.ntmps16
    go_wp2_with fail
    refine calls_box ?_
    intro W hB hb _
    refine (span_any _ _ _ _ h0 h1).mono ?_
    rintro e wr1 ⟨rfl, hbr1⟩
    go_wp2_with fail
    go_ret
    exact ⟨ret_bool (by simp [touchB, hs]), below_then hB hbr1⟩
end Go.Proofs.Ytnoafhfidecppaa
