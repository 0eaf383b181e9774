/- The document's Span: what each call comes to. -/
import Derived.Test.YtnoafhfidecppaaPlaceC
namespace Go.Proofs.Ytnoafhfidecppaa
open Go.RowKit
set_option linter.unusedVariables false
set_option linter.unusedSimpArgs false

theorem wrap_pm (x : Int) (h0 : 0 ≤ x - 1) (h1 : x - 1 ≤ 18446744073709551615) : IntKind.u64.wrap (IntKind.u64.wrap x - 1) = x - 1 := by
  rw [IntKind.wrap_u64, IntKind.wrap_u64]; omega
theorem ret_span {a b c d : Int} {p : Bool} (h : a = c) (k : b = d) : Ending.returned (.tuple #[.int .u64 a, .int .u64 b, .bool p]) = .returned (.tuple #[.int .u64 c, .int .u64 d, .bool p]) := by rw [h, k]
set_option maxHeartbeats 2000000 in
set_option maxRecDepth 100000 in
theorem rspan_n1 (b s : Int) (w : World) (h0 : 0 ≤ b) (h1 : b ≤ 18446744073709551615) (hs : s ≠ 0) :
    Calls Try.prog 11 #[.int .u64 b, .agg #[.int .i64 (-1), .int .i64 s]] w fun e w' => e = .returned (.tuple #[.int .u64 0, .int .u64 0, .bool false]) ∧ Below w.heap.size w w' := by
  have g1 : (s == 0) = false := by simpa using hs
  go_enter Try.func11, Try.ntmps11
  go_wp2_with fail
  go_ret3
  exact ⟨rfl, below_new (Below.refl _ _) _⟩
set_option maxHeartbeats 2000000 in
set_option maxRecDepth 100000 in
theorem rspan_n2 (b s : Int) (w : World) (h0 : 0 ≤ b) (h1 : b ≤ 18446744073709551615) (hs : s ≠ 0) :
    Calls Try.prog 11 #[.int .u64 b, .agg #[.int .i64 8, .int .i64 s]] w fun e w' => e = .returned (.tuple #[.int .u64 0, .int .u64 0, .bool false]) ∧ Below w.heap.size w w' := by
  have g1 : (s == 0) = false := by simpa using hs
  go_enter Try.func11, Try.ntmps11
  go_wp2_with fail
  go_ret3
  exact ⟨rfl, below_new (Below.refl _ _) _⟩
set_option maxHeartbeats 2000000 in
set_option maxRecDepth 100000 in
theorem rspan_n3 (b l s : Int) (w : World) (h0 : 0 ≤ b) (h1 : b ≤ 18446744073709551615) (k1 : l ≠ -1) (k3 : l < 0) :
    Calls Try.prog 11 #[.int .u64 b, .agg #[.int .i64 l, .int .i64 s]] w fun e w' => e = .returned (.tuple #[.int .u64 0, .int .u64 0, .bool false]) ∧ Below w.heap.size w w' := by
  have g1 : (l == -1) = false := by simp; omega
  have g2 : (l == 8) = false := by simp; omega
  have g3 : decide (l < 0) = true := by simpa using k3
  go_enter Try.func11, Try.ntmps11
  go_wp2_with fail
  go_ret3
  exact ⟨rfl, below_new (Below.refl _ _) _⟩
set_option maxHeartbeats 2000000 in
set_option maxRecDepth 100000 in
theorem rspan_n4 (b l s : Int) (w : World) (h0 : 0 ≤ b) (h1 : b ≤ 18446744073709551615) (k3 : 8 < l) :
    Calls Try.prog 11 #[.int .u64 b, .agg #[.int .i64 l, .int .i64 s]] w fun e w' => e = .returned (.tuple #[.int .u64 0, .int .u64 0, .bool false]) ∧ Below w.heap.size w w' := by
  have g1 : (l == -1) = false := by simp; omega
  have g2 : (l == 8) = false := by simp; omega
  have g3 : decide (l < 0) = false := by simp; omega
  have g4 : decide (7 < l) = true := by simp; omega
  go_enter Try.func11, Try.ntmps11
  go_wp2_with fail
  go_ret3
  exact ⟨rfl, below_new (Below.refl _ _) _⟩
set_option maxHeartbeats 2000000 in
set_option maxRecDepth 100000 in
theorem rspan_n5 (b l s : Int) (w : World) (h0 : 0 ≤ b) (h1 : b ≤ 18446744073709551615) (k1 : 0 ≤ l) (k2 : l ≤ 7) (k3 : s < 1) :
    Calls Try.prog 11 #[.int .u64 b, .agg #[.int .i64 l, .int .i64 s]] w fun e w' => e = .returned (.tuple #[.int .u64 0, .int .u64 0, .bool false]) ∧ Below w.heap.size w w' := by
  have g1 : (l == -1) = false := by simp; omega
  have g2 : (l == 8) = false := by simp; omega
  have g3 : decide (l < 0) = false := by simp; omega
  have g4 : decide (7 < l) = false := by simp; omega
  have g5 : decide (s < 1) = true := by simp; omega
  go_enter Try.func11, Try.ntmps11
  go_wp2_with fail
  go_ret3
  exact ⟨rfl, below_new (Below.refl _ _) _⟩
set_option maxHeartbeats 2000000 in
set_option maxRecDepth 100000 in
theorem rspan_n6 (b l s : Int) (w : World) (h0 : 0 ≤ b) (h1 : b ≤ 18446744073709551615) (k1 : 0 ≤ l) (k2 : l ≤ 7) (k3 : 63 < s) :
    Calls Try.prog 11 #[.int .u64 b, .agg #[.int .i64 l, .int .i64 s]] w fun e w' => e = .returned (.tuple #[.int .u64 0, .int .u64 0, .bool false]) ∧ Below w.heap.size w w' := by
  have g1 : (l == -1) = false := by simp; omega
  have g2 : (l == 8) = false := by simp; omega
  have g3 : decide (l < 0) = false := by simp; omega
  have g4 : decide (7 < l) = false := by simp; omega
  have g5 : decide (s < 1) = false := by simp; omega
  have g6 : decide (63 < s) = true := by simp; omega
  go_enter Try.func11, Try.ntmps11
  go_wp2_with fail
  go_ret3
  exact ⟨rfl, below_new (Below.refl _ _) _⟩
set_option maxHeartbeats 2000000 in
set_option maxRecDepth 100000 in
theorem rspan_late (b : Int) (w : World) (h0 : 0 ≤ b) (h1 : b ≤ 18446744073709551615) :
    Calls Try.prog 11 #[.int .u64 b, .agg #[.int .i64 (-1), .int .i64 0]] w fun e w' => e = .returned (.tuple #[.int .u64 0, .int .u64 b, .bool true]) ∧ Below w.heap.size w w' := by
  go_enter Try.func11, Try.ntmps11
  go_wp2_with fail
  go_ret3
  exact ⟨rfl, below_new (Below.refl _ _) _⟩
set_option maxHeartbeats 2000000 in
set_option maxRecDepth 100000 in
theorem rspan_far_no (b : Int) (w : World) (h0 : 0 ≤ b) (h1 : b ≤ 18446744073709551615) (hq : 65535 ≤ b / 281474976710656) :
    Calls Try.prog 11 #[.int .u64 b, .agg #[.int .i64 8, .int .i64 0]] w fun e w' => e = .returned (.tuple #[.int .u64 0, .int .u64 0, .bool false]) ∧ Below w.heap.size w w' := by
  have hq2 : (b / 281474976710656 == 65535) = true := by simp; omega
  go_enter Try.func11, Try.ntmps11
  go_wp2_with fail
  refine calls_box ?_
  intro W hB hb _
  obtain ⟨hc, hf⟩ := Ext.cells hb
  refine (power_any _ _ (by omega) (by omega)).mono ?_
  rintro e wr1 ⟨rfl, hbr1⟩
  obtain ⟨x1, rfl⟩ := Ext.of hbr1
  go_wp2_with fail
  go_ret3
  exact ⟨rfl, below_then hB x1.ok⟩
set_option maxHeartbeats 2000000 in
set_option maxRecDepth 100000 in
theorem rspan_far_yes (b : Int) (w : World) (h0 : 0 ≤ b) (h1 : b ≤ 18446744073709551615) (hq : b / 281474976710656 < 65535) :
    Calls Try.prog 11 #[.int .u64 b, .agg #[.int .i64 8, .int .i64 0]] w fun e w' => e = .returned (.tuple #[.int .u64 ((b / 281474976710656 + 1) * 281474976710656), .int .u64 18446744073709551615, .bool true]) ∧ Below w.heap.size w w' := by
  have hq2 : (b / 281474976710656 == 65535) = false := by simp; omega
  go_enter Try.func11, Try.ntmps11
  go_wp2_with fail
  refine calls_box ?_
  intro W hB hb _
  obtain ⟨hc, hf⟩ := Ext.cells hb
  refine (power_any _ _ (by omega) (by omega)).mono ?_
  rintro e wr1 ⟨rfl, hbr1⟩
  obtain ⟨x1, rfl⟩ := Ext.of hbr1
  go_wp2_with fail
  go_ret3
  exact ⟨rfl, below_then hB x1.ok⟩
set_option maxHeartbeats 2000000 in
set_option maxRecDepth 100000 in
theorem rspan_in_no0 (b s : Int) (w : World) (h0 : 0 ≤ b) (h1 : b ≤ 18446744073709551615) (hs1 : 1 ≤ s) (hs64 : s < 64) (hd : s ≤ b % 64) :
    Calls Try.prog 11 #[.int .u64 b, .agg #[.int .i64 0, .int .i64 s]] w fun e w' => e = .returned (.tuple #[.int .u64 0, .int .u64 0, .bool false]) ∧ Below w.heap.size w w' := by
  have g5 : decide (s < 1) = false := by simp; omega
  have g6 : decide (63 < s) = false := by simp; omega
  have g7 : decide (s ≤ b % 64) = true := by simpa using hd
  go_enter Try.func11, Try.ntmps11
  go_wp2_with fail
  refine calls_box ?_
  intro W hB hb _
  obtain ⟨hc, hf⟩ := Ext.cells hb
  refine (power_any _ _ (by omega) (by omega)).mono ?_
  rintro e wr1 ⟨rfl, hbr1⟩
  obtain ⟨x1, rfl⟩ := Ext.of hbr1
  go_wp2_with fail
  refine wp_region_ext x1 (by kernel_rfl) (by kernel_rfl) ?_
  repeat (go_big_quiet_step (fail))
  refine wpQuiet_nil ?_
  rintro _ ⟨x2, rfl⟩
  go_wp2_with fail
  go_ret3
  exact ⟨rfl, below_then hB x2.ok⟩
set_option maxHeartbeats 2000000 in
set_option maxRecDepth 100000 in
theorem rspan_in_yes0 (b s : Int) (w : World) (h0 : 0 ≤ b) (h1 : b ≤ 18446744073709551615) (hs1 : 1 ≤ s) (hs64 : s < 64) (hd : b % 64 < s) :
    Calls Try.prog 11 #[.int .u64 b, .agg #[.int .i64 0, .int .i64 s]] w fun e w' => e = .returned (.tuple #[.int .u64 (b / 64 * 64 + s * 1), .int .u64 ((b / 64 * 64 + s * 1) + 0), .bool true]) ∧ Below w.heap.size w w' := by
  have g5 : decide (s < 1) = false := by simp; omega
  have g6 : decide (63 < s) = false := by simp; omega
  have g7 : decide (s ≤ b % 64) = false := by simp; omega
  go_enter Try.func11, Try.ntmps11
  go_wp2_with fail
  refine calls_box ?_
  intro W hB hb _
  obtain ⟨hc, hf⟩ := Ext.cells hb
  refine (power_any _ _ (by omega) (by omega)).mono ?_
  rintro e wr1 ⟨rfl, hbr1⟩
  obtain ⟨x1, rfl⟩ := Ext.of hbr1
  go_wp2_with fail
  refine wp_region_ext x1 (by kernel_rfl) (by kernel_rfl) ?_
  repeat (go_big_quiet_step (fail))
  refine wpQuiet_nil ?_
  rintro _ ⟨x2, rfl⟩
  go_wp2_with fail
  refine wp_region_ext x2 (by kernel_rfl) (by kernel_rfl) ?_
  repeat (go_big_quiet_step (fail))
  refine wpQuiet_nil ?_
  rintro _ ⟨x3, rfl⟩
  go_wp2_with fail
  go_ret3
  exact ⟨ret_span (by omega) (by first | omega | (rw [wrap_pm _ (by omega) (by omega)]; omega)), below_then hB x3.ok⟩
set_option maxHeartbeats 2000000 in
set_option maxRecDepth 100000 in
theorem rspan_in_no1 (b s : Int) (w : World) (h0 : 0 ≤ b) (h1 : b ≤ 18446744073709551615) (hs1 : 1 ≤ s) (hs64 : s < 64) (hd : s ≤ b / 64 % 64) :
    Calls Try.prog 11 #[.int .u64 b, .agg #[.int .i64 1, .int .i64 s]] w fun e w' => e = .returned (.tuple #[.int .u64 0, .int .u64 0, .bool false]) ∧ Below w.heap.size w w' := by
  have g5 : decide (s < 1) = false := by simp; omega
  have g6 : decide (63 < s) = false := by simp; omega
  have g7 : decide (s ≤ b / 64 % 64) = true := by simpa using hd
  go_enter Try.func11, Try.ntmps11
  go_wp2_with fail
  refine calls_box ?_
  intro W hB hb _
  obtain ⟨hc, hf⟩ := Ext.cells hb
  refine (power_any _ _ (by omega) (by omega)).mono ?_
  rintro e wr1 ⟨rfl, hbr1⟩
  obtain ⟨x1, rfl⟩ := Ext.of hbr1
  go_wp2_with fail
  refine wp_region_ext x1 (by kernel_rfl) (by kernel_rfl) ?_
  repeat (go_big_quiet_step (fail))
  refine wpQuiet_nil ?_
  rintro _ ⟨x2, rfl⟩
  go_wp2_with fail
  go_ret3
  exact ⟨rfl, below_then hB x2.ok⟩
set_option maxHeartbeats 2000000 in
set_option maxRecDepth 100000 in
theorem rspan_in_yes1 (b s : Int) (w : World) (h0 : 0 ≤ b) (h1 : b ≤ 18446744073709551615) (hs1 : 1 ≤ s) (hs64 : s < 64) (hd : b / 64 % 64 < s) :
    Calls Try.prog 11 #[.int .u64 b, .agg #[.int .i64 1, .int .i64 s]] w fun e w' => e = .returned (.tuple #[.int .u64 (b / 4096 * 4096 + s * 64), .int .u64 ((b / 4096 * 4096 + s * 64) + 63), .bool true]) ∧ Below w.heap.size w w' := by
  have g5 : decide (s < 1) = false := by simp; omega
  have g6 : decide (63 < s) = false := by simp; omega
  have g7 : decide (s ≤ b / 64 % 64) = false := by simp; omega
  go_enter Try.func11, Try.ntmps11
  go_wp2_with fail
  refine calls_box ?_
  intro W hB hb _
  obtain ⟨hc, hf⟩ := Ext.cells hb
  refine (power_any _ _ (by omega) (by omega)).mono ?_
  rintro e wr1 ⟨rfl, hbr1⟩
  obtain ⟨x1, rfl⟩ := Ext.of hbr1
  go_wp2_with fail
  refine wp_region_ext x1 (by kernel_rfl) (by kernel_rfl) ?_
  repeat (go_big_quiet_step (fail))
  refine wpQuiet_nil ?_
  rintro _ ⟨x2, rfl⟩
  go_wp2_with fail
  refine wp_region_ext x2 (by kernel_rfl) (by kernel_rfl) ?_
  repeat (go_big_quiet_step (fail))
  refine wpQuiet_nil ?_
  rintro _ ⟨x3, rfl⟩
  go_wp2_with fail
  go_ret3
  exact ⟨ret_span (by omega) (by first | omega | (rw [wrap_pm _ (by omega) (by omega)]; omega)), below_then hB x3.ok⟩
set_option maxHeartbeats 2000000 in
set_option maxRecDepth 100000 in
theorem rspan_in_no2 (b s : Int) (w : World) (h0 : 0 ≤ b) (h1 : b ≤ 18446744073709551615) (hs1 : 1 ≤ s) (hs64 : s < 64) (hd : s ≤ b / 4096 % 64) :
    Calls Try.prog 11 #[.int .u64 b, .agg #[.int .i64 2, .int .i64 s]] w fun e w' => e = .returned (.tuple #[.int .u64 0, .int .u64 0, .bool false]) ∧ Below w.heap.size w w' := by
  have g5 : decide (s < 1) = false := by simp; omega
  have g6 : decide (63 < s) = false := by simp; omega
  have g7 : decide (s ≤ b / 4096 % 64) = true := by simpa using hd
  go_enter Try.func11, Try.ntmps11
  go_wp2_with fail
  refine calls_box ?_
  intro W hB hb _
  obtain ⟨hc, hf⟩ := Ext.cells hb
  refine (power_any _ _ (by omega) (by omega)).mono ?_
  rintro e wr1 ⟨rfl, hbr1⟩
  obtain ⟨x1, rfl⟩ := Ext.of hbr1
  go_wp2_with fail
  refine wp_region_ext x1 (by kernel_rfl) (by kernel_rfl) ?_
  repeat (go_big_quiet_step (fail))
  refine wpQuiet_nil ?_
  rintro _ ⟨x2, rfl⟩
  go_wp2_with fail
  go_ret3
  exact ⟨rfl, below_then hB x2.ok⟩
set_option maxHeartbeats 2000000 in
set_option maxRecDepth 100000 in
theorem rspan_in_yes2 (b s : Int) (w : World) (h0 : 0 ≤ b) (h1 : b ≤ 18446744073709551615) (hs1 : 1 ≤ s) (hs64 : s < 64) (hd : b / 4096 % 64 < s) :
    Calls Try.prog 11 #[.int .u64 b, .agg #[.int .i64 2, .int .i64 s]] w fun e w' => e = .returned (.tuple #[.int .u64 (b / 262144 * 262144 + s * 4096), .int .u64 ((b / 262144 * 262144 + s * 4096) + 4095), .bool true]) ∧ Below w.heap.size w w' := by
  have g5 : decide (s < 1) = false := by simp; omega
  have g6 : decide (63 < s) = false := by simp; omega
  have g7 : decide (s ≤ b / 4096 % 64) = false := by simp; omega
  go_enter Try.func11, Try.ntmps11
  go_wp2_with fail
  refine calls_box ?_
  intro W hB hb _
  obtain ⟨hc, hf⟩ := Ext.cells hb
  refine (power_any _ _ (by omega) (by omega)).mono ?_
  rintro e wr1 ⟨rfl, hbr1⟩
  obtain ⟨x1, rfl⟩ := Ext.of hbr1
  go_wp2_with fail
  refine wp_region_ext x1 (by kernel_rfl) (by kernel_rfl) ?_
  repeat (go_big_quiet_step (fail))
  refine wpQuiet_nil ?_
  rintro _ ⟨x2, rfl⟩
  go_wp2_with fail
  refine wp_region_ext x2 (by kernel_rfl) (by kernel_rfl) ?_
  repeat (go_big_quiet_step (fail))
  refine wpQuiet_nil ?_
  rintro _ ⟨x3, rfl⟩
  go_wp2_with fail
  go_ret3
  exact ⟨ret_span (by omega) (by first | omega | (rw [wrap_pm _ (by omega) (by omega)]; omega)), below_then hB x3.ok⟩
set_option maxHeartbeats 2000000 in
set_option maxRecDepth 100000 in
theorem rspan_in_no3 (b s : Int) (w : World) (h0 : 0 ≤ b) (h1 : b ≤ 18446744073709551615) (hs1 : 1 ≤ s) (hs64 : s < 64) (hd : s ≤ b / 262144 % 64) :
    Calls Try.prog 11 #[.int .u64 b, .agg #[.int .i64 3, .int .i64 s]] w fun e w' => e = .returned (.tuple #[.int .u64 0, .int .u64 0, .bool false]) ∧ Below w.heap.size w w' := by
  have g5 : decide (s < 1) = false := by simp; omega
  have g6 : decide (63 < s) = false := by simp; omega
  have g7 : decide (s ≤ b / 262144 % 64) = true := by simpa using hd
  go_enter Try.func11, Try.ntmps11
  go_wp2_with fail
  refine calls_box ?_
  intro W hB hb _
  obtain ⟨hc, hf⟩ := Ext.cells hb
  refine (power_any _ _ (by omega) (by omega)).mono ?_
  rintro e wr1 ⟨rfl, hbr1⟩
  obtain ⟨x1, rfl⟩ := Ext.of hbr1
  go_wp2_with fail
  refine wp_region_ext x1 (by kernel_rfl) (by kernel_rfl) ?_
  repeat (go_big_quiet_step (fail))
  refine wpQuiet_nil ?_
  rintro _ ⟨x2, rfl⟩
  go_wp2_with fail
  go_ret3
  exact ⟨rfl, below_then hB x2.ok⟩
set_option maxHeartbeats 2000000 in
set_option maxRecDepth 100000 in
theorem rspan_in_yes3 (b s : Int) (w : World) (h0 : 0 ≤ b) (h1 : b ≤ 18446744073709551615) (hs1 : 1 ≤ s) (hs64 : s < 64) (hd : b / 262144 % 64 < s) :
    Calls Try.prog 11 #[.int .u64 b, .agg #[.int .i64 3, .int .i64 s]] w fun e w' => e = .returned (.tuple #[.int .u64 (b / 16777216 * 16777216 + s * 262144), .int .u64 ((b / 16777216 * 16777216 + s * 262144) + 262143), .bool true]) ∧ Below w.heap.size w w' := by
  have g5 : decide (s < 1) = false := by simp; omega
  have g6 : decide (63 < s) = false := by simp; omega
  have g7 : decide (s ≤ b / 262144 % 64) = false := by simp; omega
  go_enter Try.func11, Try.ntmps11
  go_wp2_with fail
  refine calls_box ?_
  intro W hB hb _
  obtain ⟨hc, hf⟩ := Ext.cells hb
  refine (power_any _ _ (by omega) (by omega)).mono ?_
  rintro e wr1 ⟨rfl, hbr1⟩
  obtain ⟨x1, rfl⟩ := Ext.of hbr1
  go_wp2_with fail
  refine wp_region_ext x1 (by kernel_rfl) (by kernel_rfl) ?_
  repeat (go_big_quiet_step (fail))
  refine wpQuiet_nil ?_
  rintro _ ⟨x2, rfl⟩
  go_wp2_with fail
  refine wp_region_ext x2 (by kernel_rfl) (by kernel_rfl) ?_
  repeat (go_big_quiet_step (fail))
  refine wpQuiet_nil ?_
  rintro _ ⟨x3, rfl⟩
  go_wp2_with fail
  go_ret3
  exact ⟨ret_span (by omega) (by first | omega | (rw [wrap_pm _ (by omega) (by omega)]; omega)), below_then hB x3.ok⟩
set_option maxHeartbeats 2000000 in
set_option maxRecDepth 100000 in
theorem rspan_in_no4 (b s : Int) (w : World) (h0 : 0 ≤ b) (h1 : b ≤ 18446744073709551615) (hs1 : 1 ≤ s) (hs64 : s < 64) (hd : s ≤ b / 16777216 % 64) :
    Calls Try.prog 11 #[.int .u64 b, .agg #[.int .i64 4, .int .i64 s]] w fun e w' => e = .returned (.tuple #[.int .u64 0, .int .u64 0, .bool false]) ∧ Below w.heap.size w w' := by
  have g5 : decide (s < 1) = false := by simp; omega
  have g6 : decide (63 < s) = false := by simp; omega
  have g7 : decide (s ≤ b / 16777216 % 64) = true := by simpa using hd
  go_enter Try.func11, Try.ntmps11
  go_wp2_with fail
  refine calls_box ?_
  intro W hB hb _
  obtain ⟨hc, hf⟩ := Ext.cells hb
  refine (power_any _ _ (by omega) (by omega)).mono ?_
  rintro e wr1 ⟨rfl, hbr1⟩
  obtain ⟨x1, rfl⟩ := Ext.of hbr1
  go_wp2_with fail
  refine wp_region_ext x1 (by kernel_rfl) (by kernel_rfl) ?_
  repeat (go_big_quiet_step (fail))
  refine wpQuiet_nil ?_
  rintro _ ⟨x2, rfl⟩
  go_wp2_with fail
  go_ret3
  exact ⟨rfl, below_then hB x2.ok⟩
set_option maxHeartbeats 2000000 in
set_option maxRecDepth 100000 in
theorem rspan_in_yes4 (b s : Int) (w : World) (h0 : 0 ≤ b) (h1 : b ≤ 18446744073709551615) (hs1 : 1 ≤ s) (hs64 : s < 64) (hd : b / 16777216 % 64 < s) :
    Calls Try.prog 11 #[.int .u64 b, .agg #[.int .i64 4, .int .i64 s]] w fun e w' => e = .returned (.tuple #[.int .u64 (b / 1073741824 * 1073741824 + s * 16777216), .int .u64 ((b / 1073741824 * 1073741824 + s * 16777216) + 16777215), .bool true]) ∧ Below w.heap.size w w' := by
  have g5 : decide (s < 1) = false := by simp; omega
  have g6 : decide (63 < s) = false := by simp; omega
  have g7 : decide (s ≤ b / 16777216 % 64) = false := by simp; omega
  go_enter Try.func11, Try.ntmps11
  go_wp2_with fail
  refine calls_box ?_
  intro W hB hb _
  obtain ⟨hc, hf⟩ := Ext.cells hb
  refine (power_any _ _ (by omega) (by omega)).mono ?_
  rintro e wr1 ⟨rfl, hbr1⟩
  obtain ⟨x1, rfl⟩ := Ext.of hbr1
  go_wp2_with fail
  refine wp_region_ext x1 (by kernel_rfl) (by kernel_rfl) ?_
  repeat (go_big_quiet_step (fail))
  refine wpQuiet_nil ?_
  rintro _ ⟨x2, rfl⟩
  go_wp2_with fail
  refine wp_region_ext x2 (by kernel_rfl) (by kernel_rfl) ?_
  repeat (go_big_quiet_step (fail))
  refine wpQuiet_nil ?_
  rintro _ ⟨x3, rfl⟩
  go_wp2_with fail
  go_ret3
  exact ⟨ret_span (by omega) (by first | omega | (rw [wrap_pm _ (by omega) (by omega)]; omega)), below_then hB x3.ok⟩
set_option maxHeartbeats 2000000 in
set_option maxRecDepth 100000 in
theorem rspan_in_no5 (b s : Int) (w : World) (h0 : 0 ≤ b) (h1 : b ≤ 18446744073709551615) (hs1 : 1 ≤ s) (hs64 : s < 64) (hd : s ≤ b / 1073741824 % 64) :
    Calls Try.prog 11 #[.int .u64 b, .agg #[.int .i64 5, .int .i64 s]] w fun e w' => e = .returned (.tuple #[.int .u64 0, .int .u64 0, .bool false]) ∧ Below w.heap.size w w' := by
  have g5 : decide (s < 1) = false := by simp; omega
  have g6 : decide (63 < s) = false := by simp; omega
  have g7 : decide (s ≤ b / 1073741824 % 64) = true := by simpa using hd
  go_enter Try.func11, Try.ntmps11
  go_wp2_with fail
  refine calls_box ?_
  intro W hB hb _
  obtain ⟨hc, hf⟩ := Ext.cells hb
  refine (power_any _ _ (by omega) (by omega)).mono ?_
  rintro e wr1 ⟨rfl, hbr1⟩
  obtain ⟨x1, rfl⟩ := Ext.of hbr1
  go_wp2_with fail
  refine wp_region_ext x1 (by kernel_rfl) (by kernel_rfl) ?_
  repeat (go_big_quiet_step (fail))
  refine wpQuiet_nil ?_
  rintro _ ⟨x2, rfl⟩
  go_wp2_with fail
  go_ret3
  exact ⟨rfl, below_then hB x2.ok⟩
set_option maxHeartbeats 2000000 in
set_option maxRecDepth 100000 in
theorem rspan_in_yes5 (b s : Int) (w : World) (h0 : 0 ≤ b) (h1 : b ≤ 18446744073709551615) (hs1 : 1 ≤ s) (hs64 : s < 64) (hd : b / 1073741824 % 64 < s) :
    Calls Try.prog 11 #[.int .u64 b, .agg #[.int .i64 5, .int .i64 s]] w fun e w' => e = .returned (.tuple #[.int .u64 (b / 68719476736 * 68719476736 + s * 1073741824), .int .u64 ((b / 68719476736 * 68719476736 + s * 1073741824) + 1073741823), .bool true]) ∧ Below w.heap.size w w' := by
  have g5 : decide (s < 1) = false := by simp; omega
  have g6 : decide (63 < s) = false := by simp; omega
  have g7 : decide (s ≤ b / 1073741824 % 64) = false := by simp; omega
  go_enter Try.func11, Try.ntmps11
  go_wp2_with fail
  refine calls_box ?_
  intro W hB hb _
  obtain ⟨hc, hf⟩ := Ext.cells hb
  refine (power_any _ _ (by omega) (by omega)).mono ?_
  rintro e wr1 ⟨rfl, hbr1⟩
  obtain ⟨x1, rfl⟩ := Ext.of hbr1
  go_wp2_with fail
  refine wp_region_ext x1 (by kernel_rfl) (by kernel_rfl) ?_
  repeat (go_big_quiet_step (fail))
  refine wpQuiet_nil ?_
  rintro _ ⟨x2, rfl⟩
  go_wp2_with fail
  refine wp_region_ext x2 (by kernel_rfl) (by kernel_rfl) ?_
  repeat (go_big_quiet_step (fail))
  refine wpQuiet_nil ?_
  rintro _ ⟨x3, rfl⟩
  go_wp2_with fail
  go_ret3
  exact ⟨ret_span (by omega) (by first | omega | (rw [wrap_pm _ (by omega) (by omega)]; omega)), below_then hB x3.ok⟩
set_option maxHeartbeats 2000000 in
set_option maxRecDepth 100000 in
theorem rspan_in_no6 (b s : Int) (w : World) (h0 : 0 ≤ b) (h1 : b ≤ 18446744073709551615) (hs1 : 1 ≤ s) (hs64 : s < 64) (hd : s ≤ b / 68719476736 % 64) :
    Calls Try.prog 11 #[.int .u64 b, .agg #[.int .i64 6, .int .i64 s]] w fun e w' => e = .returned (.tuple #[.int .u64 0, .int .u64 0, .bool false]) ∧ Below w.heap.size w w' := by
  have g5 : decide (s < 1) = false := by simp; omega
  have g6 : decide (63 < s) = false := by simp; omega
  have g7 : decide (s ≤ b / 68719476736 % 64) = true := by simpa using hd
  go_enter Try.func11, Try.ntmps11
  go_wp2_with fail
  refine calls_box ?_
  intro W hB hb _
  obtain ⟨hc, hf⟩ := Ext.cells hb
  refine (power_any _ _ (by omega) (by omega)).mono ?_
  rintro e wr1 ⟨rfl, hbr1⟩
  obtain ⟨x1, rfl⟩ := Ext.of hbr1
  go_wp2_with fail
  refine wp_region_ext x1 (by kernel_rfl) (by kernel_rfl) ?_
  repeat (go_big_quiet_step (fail))
  refine wpQuiet_nil ?_
  rintro _ ⟨x2, rfl⟩
  go_wp2_with fail
  go_ret3
  exact ⟨rfl, below_then hB x2.ok⟩
set_option maxHeartbeats 2000000 in
set_option maxRecDepth 100000 in
theorem rspan_in_yes6 (b s : Int) (w : World) (h0 : 0 ≤ b) (h1 : b ≤ 18446744073709551615) (hs1 : 1 ≤ s) (hs64 : s < 64) (hd : b / 68719476736 % 64 < s) :
    Calls Try.prog 11 #[.int .u64 b, .agg #[.int .i64 6, .int .i64 s]] w fun e w' => e = .returned (.tuple #[.int .u64 (b / 4398046511104 * 4398046511104 + s * 68719476736), .int .u64 ((b / 4398046511104 * 4398046511104 + s * 68719476736) + 68719476735), .bool true]) ∧ Below w.heap.size w w' := by
  have g5 : decide (s < 1) = false := by simp; omega
  have g6 : decide (63 < s) = false := by simp; omega
  have g7 : decide (s ≤ b / 68719476736 % 64) = false := by simp; omega
  go_enter Try.func11, Try.ntmps11
  go_wp2_with fail
  refine calls_box ?_
  intro W hB hb _
  obtain ⟨hc, hf⟩ := Ext.cells hb
  refine (power_any _ _ (by omega) (by omega)).mono ?_
  rintro e wr1 ⟨rfl, hbr1⟩
  obtain ⟨x1, rfl⟩ := Ext.of hbr1
  go_wp2_with fail
  refine wp_region_ext x1 (by kernel_rfl) (by kernel_rfl) ?_
  repeat (go_big_quiet_step (fail))
  refine wpQuiet_nil ?_
  rintro _ ⟨x2, rfl⟩
  go_wp2_with fail
  refine wp_region_ext x2 (by kernel_rfl) (by kernel_rfl) ?_
  repeat (go_big_quiet_step (fail))
  refine wpQuiet_nil ?_
  rintro _ ⟨x3, rfl⟩
  go_wp2_with fail
  go_ret3
  exact ⟨ret_span (by omega) (by first | omega | (rw [wrap_pm _ (by omega) (by omega)]; omega)), below_then hB x3.ok⟩
set_option maxHeartbeats 2000000 in
set_option maxRecDepth 100000 in
theorem rspan_in_no7 (b s : Int) (w : World) (h0 : 0 ≤ b) (h1 : b ≤ 18446744073709551615) (hs1 : 1 ≤ s) (hs64 : s < 64) (hd : s ≤ b / 4398046511104 % 64) :
    Calls Try.prog 11 #[.int .u64 b, .agg #[.int .i64 7, .int .i64 s]] w fun e w' => e = .returned (.tuple #[.int .u64 0, .int .u64 0, .bool false]) ∧ Below w.heap.size w w' := by
  have g5 : decide (s < 1) = false := by simp; omega
  have g6 : decide (63 < s) = false := by simp; omega
  have g7 : decide (s ≤ b / 4398046511104 % 64) = true := by simpa using hd
  go_enter Try.func11, Try.ntmps11
  go_wp2_with fail
  refine calls_box ?_
  intro W hB hb _
  obtain ⟨hc, hf⟩ := Ext.cells hb
  refine (power_any _ _ (by omega) (by omega)).mono ?_
  rintro e wr1 ⟨rfl, hbr1⟩
  obtain ⟨x1, rfl⟩ := Ext.of hbr1
  go_wp2_with fail
  refine wp_region_ext x1 (by kernel_rfl) (by kernel_rfl) ?_
  repeat (go_big_quiet_step (fail))
  refine wpQuiet_nil ?_
  rintro _ ⟨x2, rfl⟩
  go_wp2_with fail
  go_ret3
  exact ⟨rfl, below_then hB x2.ok⟩
set_option maxHeartbeats 2000000 in
set_option maxRecDepth 100000 in
theorem rspan_in_yes7 (b s : Int) (w : World) (h0 : 0 ≤ b) (h1 : b ≤ 18446744073709551615) (hs1 : 1 ≤ s) (hs64 : s < 64) (hd : b / 4398046511104 % 64 < s) :
    Calls Try.prog 11 #[.int .u64 b, .agg #[.int .i64 7, .int .i64 s]] w fun e w' => e = .returned (.tuple #[.int .u64 (b / 281474976710656 * 281474976710656 + s * 4398046511104), .int .u64 ((b / 281474976710656 * 281474976710656 + s * 4398046511104) + 4398046511103), .bool true]) ∧ Below w.heap.size w w' := by
  have g5 : decide (s < 1) = false := by simp; omega
  have g6 : decide (63 < s) = false := by simp; omega
  have g7 : decide (s ≤ b / 4398046511104 % 64) = false := by simp; omega
  go_enter Try.func11, Try.ntmps11
  go_wp2_with fail
  refine calls_box ?_
  intro W hB hb _
  obtain ⟨hc, hf⟩ := Ext.cells hb
  refine (power_any _ _ (by omega) (by omega)).mono ?_
  rintro e wr1 ⟨rfl, hbr1⟩
  obtain ⟨x1, rfl⟩ := Ext.of hbr1
  go_wp2_with fail
  refine wp_region_ext x1 (by kernel_rfl) (by kernel_rfl) ?_
  repeat (go_big_quiet_step (fail))
  refine wpQuiet_nil ?_
  rintro _ ⟨x2, rfl⟩
  go_wp2_with fail
  refine wp_region_ext x2 (by kernel_rfl) (by kernel_rfl) ?_
  repeat (go_big_quiet_step (fail))
  refine wpQuiet_nil ?_
  rintro _ ⟨x3, rfl⟩
  go_wp2_with fail
  go_ret3
  exact ⟨ret_span (by omega) (by first | omega | (rw [wrap_pm _ (by omega) (by omega)]; omega)), below_then hB x3.ok⟩
end Go.Proofs.Ytnoafhfidecppaa
