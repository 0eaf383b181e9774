/- The document's Power, Of and Span: what each call comes to. -/
import Derived.Test.YtnoafhfidecppaaPlaceB
namespace Go.Proofs.Ytnoafhfidecppaa
open Go.RowKit
set_option linter.unusedVariables false
set_option linter.unusedSimpArgs false

set_option maxHeartbeats 2000000 in
set_option maxRecDepth 100000 in
theorem power_any (l : Int) (w : World) (h0 : 0 ≤ l) (h1 : l ≤ 8) :
    Calls Try.prog 32 #[.int .i64 l] w fun e w' => e = .returned (.int .u64 (64 ^ l.toNat)) ∧ Below w.heap.size w w' := by
  have hl : l = 0 ∨ l = 1 ∨ l = 2 ∨ l = 3 ∨ l = 4 ∨ l = 5 ∨ l = 6 ∨ l = 7 ∨ l = 8 := by omega
  rcases hl with rfl | rfl | rfl | rfl | rfl | rfl | rfl | rfl | rfl
  all_goals
    go_enter Try.func32, Try.ntmps32
    go_wp2
    refine wp_loop_rounds 9 ?_
    repeat (rw [rounds_succ]; go_wp2)
    go_ret
    exact ⟨rfl, Below.refl _ _⟩

theorem nf {b : Bool} (h : b = true) : ¬ b = false := by rw [h]; simp
def rofL (b d : Int) : Int := if d ≤ b then -1 else if (b / 64 != d / 64) = false then 0 else if (b / 64 / 64 != d / 64 / 64) = false then 1 else if (b / 4096 / 64 != d / 4096 / 64) = false then 2 else if (b / 262144 / 64 != d / 262144 / 64) = false then 3 else if (b / 16777216 / 64 != d / 16777216 / 64) = false then 4 else if (b / 1073741824 / 64 != d / 1073741824 / 64) = false then 5 else if (b / 68719476736 / 64 != d / 68719476736 / 64) = false then 6 else if (b / 4398046511104 / 64 != d / 4398046511104 / 64) = false then 7 else 8
def rofS (b d : Int) : Int := if d ≤ b then 0 else if (b / 64 != d / 64) = false then d % 64 else if (b / 64 / 64 != d / 64 / 64) = false then d / 64 % 64 else if (b / 4096 / 64 != d / 4096 / 64) = false then d / 4096 % 64 else if (b / 262144 / 64 != d / 262144 / 64) = false then d / 262144 % 64 else if (b / 16777216 / 64 != d / 16777216 / 64) = false then d / 16777216 % 64 else if (b / 1073741824 / 64 != d / 1073741824 / 64) = false then d / 1073741824 % 64 else if (b / 68719476736 / 64 != d / 68719476736 / 64) = false then d / 68719476736 % 64 else if (b / 4398046511104 / 64 != d / 4398046511104 / 64) = false then d / 4398046511104 % 64 else 0
set_option maxHeartbeats 4000000 in
set_option maxRecDepth 100000 in
theorem rof_any (b d : Int) (w : World) (h0 : 0 ≤ b) (h1 : b ≤ 18446744073709551615) (k0 : 0 ≤ d) (k1 : d ≤ 18446744073709551615) :
    Calls Try.prog 14 #[.int .u64 b, .int .u64 d] w fun e w' => e = .returned (.agg #[.int .i64 (rofL b d), .int .i64 (rofS b d)]) ∧ Below w.heap.size w w' := by
  go_enter Try.func14, Try.ntmps14
  go_wp2_with fail
  · have hd : d ≤ b := by assumption
    refine bodyPost_ret (v := .agg #[.int .i64 (-1), .int .i64 0]) (by simp [results, Try.results14, go_sem]) rfl ⟨by rw [rofL, rofS, if_pos hd, if_pos hd], ?_⟩
    exact below_new (Below.refl _ _) _
  · have hd : b < d := by assumption
    refine wp_box ?_
    intro W hB hb _
    obtain ⟨hc, hf⟩ := Ext.cells hb
    refine wp_start ?_
    intro x0
    refine wp_loop_rounds 9 ?_
    rw [rounds_succ]; go_wp2_with fail
    refine wp_region_ext x0 (by kernel_rfl) (by kernel_rfl) ?_
    repeat (go_big_quiet_step (((go_at_call 32; refine Ext.call (power_any _ _ (by omega) (by omega))))))
    refine wpQuiet_nil ?_
    rintro _ ⟨x1, rfl⟩
    go_wp2_with fail
    rotate_left
    · refine (power_any _ _ (by omega) (by omega)).mono ?_
      rintro e wr ⟨rfl, hbr⟩
      obtain ⟨y, rfl⟩ := x1.step hbr
      go_wp2_with fail
      have t0 : (b / 64 != d / 64) = false := by assumption
      refine bodyPost_ret (v := .agg #[.int .i64 0, .int .i64 (d % 64)]) (by simp [results, Try.results14, go_sem, hc]) rfl ⟨by rw [rofL, rofS, if_neg (by omega), if_pos t0, if_neg (by omega), if_pos t0], ?_⟩
      exact below_set (below_set (below_then hB y.ok) (Nat.le_refl _) _) (Nat.le_refl _) _
    rw [rounds_succ]; go_wp2_with fail
    refine wp_region_ext x1 (by kernel_rfl) (by kernel_rfl) ?_
    repeat (go_big_quiet_step (((go_at_call 32; refine Ext.call (power_any _ _ (by omega) (by omega))))))
    refine wpQuiet_nil ?_
    rintro _ ⟨x2, rfl⟩
    go_wp2_with fail
    rotate_left
    · refine (power_any _ _ (by omega) (by omega)).mono ?_
      rintro e wr ⟨rfl, hbr⟩
      obtain ⟨y, rfl⟩ := x2.step hbr
      go_wp2_with fail
      have t0 : (b / 64 != d / 64) = true := by assumption
      have t1 : (b / 64 / 64 != d / 64 / 64) = false := by assumption
      refine bodyPost_ret (v := .agg #[.int .i64 1, .int .i64 (d / 64 % 64)]) (by simp [results, Try.results14, go_sem, hc]) rfl ⟨by rw [rofL, rofS, if_neg (by omega), if_neg (nf t0), if_pos t1, if_neg (by omega), if_neg (nf t0), if_pos t1], ?_⟩
      exact below_set (below_set (below_then hB y.ok) (Nat.le_refl _) _) (Nat.le_refl _) _
    rw [rounds_succ]; go_wp2_with fail
    refine wp_region_ext x2 (by kernel_rfl) (by kernel_rfl) ?_
    repeat (go_big_quiet_step (((go_at_call 32; refine Ext.call (power_any _ _ (by omega) (by omega))))))
    refine wpQuiet_nil ?_
    rintro _ ⟨x3, rfl⟩
    go_wp2_with fail
    rotate_left
    · refine (power_any _ _ (by omega) (by omega)).mono ?_
      rintro e wr ⟨rfl, hbr⟩
      obtain ⟨y, rfl⟩ := x3.step hbr
      go_wp2_with fail
      have t0 : (b / 64 != d / 64) = true := by assumption
      have t1 : (b / 64 / 64 != d / 64 / 64) = true := by assumption
      have t2 : (b / 4096 / 64 != d / 4096 / 64) = false := by assumption
      refine bodyPost_ret (v := .agg #[.int .i64 2, .int .i64 (d / 4096 % 64)]) (by simp [results, Try.results14, go_sem, hc]) rfl ⟨by rw [rofL, rofS, if_neg (by omega), if_neg (nf t0), if_neg (nf t1), if_pos t2, if_neg (by omega), if_neg (nf t0), if_neg (nf t1), if_pos t2], ?_⟩
      exact below_set (below_set (below_then hB y.ok) (Nat.le_refl _) _) (Nat.le_refl _) _
    rw [rounds_succ]; go_wp2_with fail
    refine wp_region_ext x3 (by kernel_rfl) (by kernel_rfl) ?_
    repeat (go_big_quiet_step (((go_at_call 32; refine Ext.call (power_any _ _ (by omega) (by omega))))))
    refine wpQuiet_nil ?_
    rintro _ ⟨x4, rfl⟩
    go_wp2_with fail
    rotate_left
    · refine (power_any _ _ (by omega) (by omega)).mono ?_
      rintro e wr ⟨rfl, hbr⟩
      obtain ⟨y, rfl⟩ := x4.step hbr
      go_wp2_with fail
      have t0 : (b / 64 != d / 64) = true := by assumption
      have t1 : (b / 64 / 64 != d / 64 / 64) = true := by assumption
      have t2 : (b / 4096 / 64 != d / 4096 / 64) = true := by assumption
      have t3 : (b / 262144 / 64 != d / 262144 / 64) = false := by assumption
      refine bodyPost_ret (v := .agg #[.int .i64 3, .int .i64 (d / 262144 % 64)]) (by simp [results, Try.results14, go_sem, hc]) rfl ⟨by rw [rofL, rofS, if_neg (by omega), if_neg (nf t0), if_neg (nf t1), if_neg (nf t2), if_pos t3, if_neg (by omega), if_neg (nf t0), if_neg (nf t1), if_neg (nf t2), if_pos t3], ?_⟩
      exact below_set (below_set (below_then hB y.ok) (Nat.le_refl _) _) (Nat.le_refl _) _
    rw [rounds_succ]; go_wp2_with fail
    refine wp_region_ext x4 (by kernel_rfl) (by kernel_rfl) ?_
    repeat (go_big_quiet_step (((go_at_call 32; refine Ext.call (power_any _ _ (by omega) (by omega))))))
    refine wpQuiet_nil ?_
    rintro _ ⟨x5, rfl⟩
    go_wp2_with fail
    rotate_left
    · refine (power_any _ _ (by omega) (by omega)).mono ?_
      rintro e wr ⟨rfl, hbr⟩
      obtain ⟨y, rfl⟩ := x5.step hbr
      go_wp2_with fail
      have t0 : (b / 64 != d / 64) = true := by assumption
      have t1 : (b / 64 / 64 != d / 64 / 64) = true := by assumption
      have t2 : (b / 4096 / 64 != d / 4096 / 64) = true := by assumption
      have t3 : (b / 262144 / 64 != d / 262144 / 64) = true := by assumption
      have t4 : (b / 16777216 / 64 != d / 16777216 / 64) = false := by assumption
      refine bodyPost_ret (v := .agg #[.int .i64 4, .int .i64 (d / 16777216 % 64)]) (by simp [results, Try.results14, go_sem, hc]) rfl ⟨by rw [rofL, rofS, if_neg (by omega), if_neg (nf t0), if_neg (nf t1), if_neg (nf t2), if_neg (nf t3), if_pos t4, if_neg (by omega), if_neg (nf t0), if_neg (nf t1), if_neg (nf t2), if_neg (nf t3), if_pos t4], ?_⟩
      exact below_set (below_set (below_then hB y.ok) (Nat.le_refl _) _) (Nat.le_refl _) _
    rw [rounds_succ]; go_wp2_with fail
    refine wp_region_ext x5 (by kernel_rfl) (by kernel_rfl) ?_
    repeat (go_big_quiet_step (((go_at_call 32; refine Ext.call (power_any _ _ (by omega) (by omega))))))
    refine wpQuiet_nil ?_
    rintro _ ⟨x6, rfl⟩
    go_wp2_with fail
    rotate_left
    · refine (power_any _ _ (by omega) (by omega)).mono ?_
      rintro e wr ⟨rfl, hbr⟩
      obtain ⟨y, rfl⟩ := x6.step hbr
      go_wp2_with fail
      have t0 : (b / 64 != d / 64) = true := by assumption
      have t1 : (b / 64 / 64 != d / 64 / 64) = true := by assumption
      have t2 : (b / 4096 / 64 != d / 4096 / 64) = true := by assumption
      have t3 : (b / 262144 / 64 != d / 262144 / 64) = true := by assumption
      have t4 : (b / 16777216 / 64 != d / 16777216 / 64) = true := by assumption
      have t5 : (b / 1073741824 / 64 != d / 1073741824 / 64) = false := by assumption
      refine bodyPost_ret (v := .agg #[.int .i64 5, .int .i64 (d / 1073741824 % 64)]) (by simp [results, Try.results14, go_sem, hc]) rfl ⟨by rw [rofL, rofS, if_neg (by omega), if_neg (nf t0), if_neg (nf t1), if_neg (nf t2), if_neg (nf t3), if_neg (nf t4), if_pos t5, if_neg (by omega), if_neg (nf t0), if_neg (nf t1), if_neg (nf t2), if_neg (nf t3), if_neg (nf t4), if_pos t5], ?_⟩
      exact below_set (below_set (below_then hB y.ok) (Nat.le_refl _) _) (Nat.le_refl _) _
    rw [rounds_succ]; go_wp2_with fail
    refine wp_region_ext x6 (by kernel_rfl) (by kernel_rfl) ?_
    repeat (go_big_quiet_step (((go_at_call 32; refine Ext.call (power_any _ _ (by omega) (by omega))))))
    refine wpQuiet_nil ?_
    rintro _ ⟨x7, rfl⟩
    go_wp2_with fail
    rotate_left
    · refine (power_any _ _ (by omega) (by omega)).mono ?_
      rintro e wr ⟨rfl, hbr⟩
      obtain ⟨y, rfl⟩ := x7.step hbr
      go_wp2_with fail
      have t0 : (b / 64 != d / 64) = true := by assumption
      have t1 : (b / 64 / 64 != d / 64 / 64) = true := by assumption
      have t2 : (b / 4096 / 64 != d / 4096 / 64) = true := by assumption
      have t3 : (b / 262144 / 64 != d / 262144 / 64) = true := by assumption
      have t4 : (b / 16777216 / 64 != d / 16777216 / 64) = true := by assumption
      have t5 : (b / 1073741824 / 64 != d / 1073741824 / 64) = true := by assumption
      have t6 : (b / 68719476736 / 64 != d / 68719476736 / 64) = false := by assumption
      refine bodyPost_ret (v := .agg #[.int .i64 6, .int .i64 (d / 68719476736 % 64)]) (by simp [results, Try.results14, go_sem, hc]) rfl ⟨by rw [rofL, rofS, if_neg (by omega), if_neg (nf t0), if_neg (nf t1), if_neg (nf t2), if_neg (nf t3), if_neg (nf t4), if_neg (nf t5), if_pos t6, if_neg (by omega), if_neg (nf t0), if_neg (nf t1), if_neg (nf t2), if_neg (nf t3), if_neg (nf t4), if_neg (nf t5), if_pos t6], ?_⟩
      exact below_set (below_set (below_then hB y.ok) (Nat.le_refl _) _) (Nat.le_refl _) _
    rw [rounds_succ]; go_wp2_with fail
    refine wp_region_ext x7 (by kernel_rfl) (by kernel_rfl) ?_
    repeat (go_big_quiet_step (((go_at_call 32; refine Ext.call (power_any _ _ (by omega) (by omega))))))
    refine wpQuiet_nil ?_
    rintro _ ⟨x8, rfl⟩
    go_wp2_with fail
    rotate_left
    · refine (power_any _ _ (by omega) (by omega)).mono ?_
      rintro e wr ⟨rfl, hbr⟩
      obtain ⟨y, rfl⟩ := x8.step hbr
      go_wp2_with fail
      have t0 : (b / 64 != d / 64) = true := by assumption
      have t1 : (b / 64 / 64 != d / 64 / 64) = true := by assumption
      have t2 : (b / 4096 / 64 != d / 4096 / 64) = true := by assumption
      have t3 : (b / 262144 / 64 != d / 262144 / 64) = true := by assumption
      have t4 : (b / 16777216 / 64 != d / 16777216 / 64) = true := by assumption
      have t5 : (b / 1073741824 / 64 != d / 1073741824 / 64) = true := by assumption
      have t6 : (b / 68719476736 / 64 != d / 68719476736 / 64) = true := by assumption
      have t7 : (b / 4398046511104 / 64 != d / 4398046511104 / 64) = false := by assumption
      refine bodyPost_ret (v := .agg #[.int .i64 7, .int .i64 (d / 4398046511104 % 64)]) (by simp [results, Try.results14, go_sem, hc]) rfl ⟨by rw [rofL, rofS, if_neg (by omega), if_neg (nf t0), if_neg (nf t1), if_neg (nf t2), if_neg (nf t3), if_neg (nf t4), if_neg (nf t5), if_neg (nf t6), if_pos t7, if_neg (by omega), if_neg (nf t0), if_neg (nf t1), if_neg (nf t2), if_neg (nf t3), if_neg (nf t4), if_neg (nf t5), if_neg (nf t6), if_pos t7], ?_⟩
      exact below_set (below_set (below_then hB y.ok) (Nat.le_refl _) _) (Nat.le_refl _) _
    rw [rounds_succ]; go_wp2_with fail
    refine wp_region_ext x8 (by kernel_rfl) (by kernel_rfl) ?_
    repeat (go_big_quiet_step (fail))
    refine wpQuiet_nil ?_
    rintro _ ⟨x9, rfl⟩
    go_wp2_with fail
    have t0 : (b / 64 != d / 64) = true := by assumption
    have t1 : (b / 64 / 64 != d / 64 / 64) = true := by assumption
    have t2 : (b / 4096 / 64 != d / 4096 / 64) = true := by assumption
    have t3 : (b / 262144 / 64 != d / 262144 / 64) = true := by assumption
    have t4 : (b / 16777216 / 64 != d / 16777216 / 64) = true := by assumption
    have t5 : (b / 1073741824 / 64 != d / 1073741824 / 64) = true := by assumption
    have t6 : (b / 68719476736 / 64 != d / 68719476736 / 64) = true := by assumption
    have t7 : (b / 4398046511104 / 64 != d / 4398046511104 / 64) = true := by assumption
    refine bodyPost_ret (v := .agg #[.int .i64 8, .int .i64 0]) (by simp [results, Try.results14, go_sem, hc]) rfl ⟨by rw [rofL, rofS, if_neg (by omega), if_neg (nf t0), if_neg (nf t1), if_neg (nf t2), if_neg (nf t3), if_neg (nf t4), if_neg (nf t5), if_neg (nf t6), if_neg (nf t7), if_neg (by omega), if_neg (nf t0), if_neg (nf t1), if_neg (nf t2), if_neg (nf t3), if_neg (nf t4), if_neg (nf t5), if_neg (nf t6), if_neg (nf t7)], ?_⟩
    exact below_set (below_set (below_then hB x9.ok) (Nat.le_refl _) _) (Nat.le_refl _) _
end Go.Proofs.Ytnoafhfidecppaa
