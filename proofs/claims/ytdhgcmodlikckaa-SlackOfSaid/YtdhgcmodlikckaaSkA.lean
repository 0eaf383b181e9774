/- Windows: Right, Hits, Of, Meet. -/
import Derived.Test.YtdhgcmodlikckaaAppS
import Derived.Test.YtdhgcmodlikckaaWords4
import Derived.Test.YtdhgcmodlikckaaArgs
import Derived.Test.YtdhgcmodlikckaaTail
namespace Go.Proofs.Ytdhgcmodlikckaa
open Go.RowKit
set_option linter.unusedVariables false
set_option linter.unusedSimpArgs false

set_option maxHeartbeats 8000000 in
set_option maxRecDepth 100000 in
theorem right_any (a b : Int) (w : World) :
    Calls Try.prog 32 #[.agg #[.int .u64 a, .int .u64 b]] w fun e w' => e = .returned (.bool (decide (a ≤ b))) ∧ Below w.heap.size w w' := by
  go_enter Try.func32, Try.ntmps32
  go_wp2_with fail
  go_ret
  exact ⟨rfl, below_new (Below.refl _ _) _⟩
set_option maxHeartbeats 8000000 in
set_option maxRecDepth 100000 in
theorem hits_any (t a b : Int) (w : World) :
    Calls Try.prog 33 #[.int .u64 t, .agg #[.int .u64 a, .int .u64 b]] w fun e w' => e = .returned (.bool (decide (a ≤ t) && decide (t ≤ b))) ∧ Below w.heap.size w w' := by
  by_cases h : a ≤ t
  · have d1 : decide (a ≤ t) = true := dec_t h
    rw [d1, Bool.true_and]
    go_enter Try.func33, Try.ntmps33
    go_wp2_with fail
    go_ret
    exact ⟨rfl, below_new (Below.refl _ _) _⟩
  · have d1 : decide (a ≤ t) = false := dec_f h
    rw [d1, Bool.false_and]
    go_enter Try.func33, Try.ntmps33
    go_wp2_with fail
    go_ret
    exact ⟨rfl, below_new (Below.refl _ _) _⟩
set_option maxHeartbeats 8000000 in
set_option maxRecDepth 100000 in
theorem of_any (d m : Int) (w : World) (h0 : 0 ≤ d) (h1 : d ≤ 18446744073709551615) (k0 : 0 ≤ m) (k1 : m ≤ 18446744073709551615) :
    Calls Try.prog 35 #[.int .u64 d, .int .u64 m] w fun e w' => e = .returned (.agg #[.int .u64 d, .int .u64 (addI d m)]) ∧ Below w.heap.size w w' := by
  have HC := Lib.hid (fun w => add_any d m w h0 h1 k0 k1)
  clear h0 h1 k0 k1
  obtain ⟨Z, hZ⟩ : ∃ Z, addI d m = Z := ⟨_, rfl⟩
  rw [hZ] at HC ⊢
  go_enter Try.func35, Try.ntmps35
  go_wp2_with (go_at_call 40; refine (HC.out _).mono ?_; rintro e w1 ⟨rfl, hb1⟩; have hr := RowAt.ext (RowAt.new w #[.int .u64 0, .int .u64 0] 53) hb1; have HR := Lib.hid hr; have HB := Lib.hid (below_then (below_new (Below.refl _ _) _) hb1 : Below w.heap.size w w1); have c0 : w1.cell? ⟨w.heap.size, 0, none⟩ = some (.int .u64 0) := hr.cell (i := 0) rfl; have c1 : w1.cell? ⟨w.heap.size, 1, none⟩ = some (.int .u64 0) := hr.cell (i := 1) rfl; have f0 := hr.frozen 0; have f1 := hr.frozen 1; clear hr hb1)
  refine bodyPost_ret (v := .agg #[.int .u64 d, .int .u64 Z]) (results_cell_row rfl _ _ w.heap.size 53 #[.int .u64 d, .int .u64 Z] (0, 0) _ rfl ((HR.out.set 0 _).set 1 _) Try.underlying53 rfl (by kernel_rfl)) rfl ⟨rfl, ?_⟩
  repeat (first | exact HB.out | refine below_set ?_ (by simp) _)
theorem eql_w (a b c d : Int) (w : World) : (binOp .eql 53 (.agg #[.int .u64 a, .int .u64 b]) (.agg #[.int .u64 c, .int .u64 d])).run Try.prog w = .ok (.bool (decide (a = c) && decide (b = d))) w := by
  go_simp
  by_cases h1 : a = c <;> by_cases h2 : b = d <;> simp [h1, h2]
set_option maxHeartbeats 8000000 in
set_option maxRecDepth 100000 in
theorem meet_any (a b c d : Int) (w : World) :
    Calls Try.prog 34 #[.agg #[.int .u64 a, .int .u64 b], .agg #[.int .u64 c, .int .u64 d]] w fun e w' => e = .returned (.bool (decide (max a c ≤ min b d))) ∧ Below w.heap.size w w' := by
  by_cases h1 : a = c
  · by_cases h2 : b = d
    · subst h1
      subst h2
      have hm : decide (max a a ≤ min b b) = decide (a ≤ b) := by congr 1; rw [Int.max_self, Int.min_self]
      rw [hm]
      go_enter Try.func34, Try.ntmps34
      go_wp2_with (go_at_call 32; refine (right_any a b _).mono ?_; rintro e w1 ⟨rfl, hb1⟩)
      go_ret
      exact ⟨rfl, below_then (below_new (below_new (Below.refl _ _) _) _) hb1⟩
    · have g1 : (a == c) = true := beq_t h1
      have g2 : (b == d) = false := beq_f h2
      go_enter Try.func34, Try.ntmps34
      go_wp2_with fail
      all_goals
        go_ret
        exact ⟨(congrArg (fun b => Ending.returned (Value.bool b)) (decide_eq_decide.2 (by omega))), below_new (below_new (Below.refl _ _) _) _⟩
  · have g1 : (a == c) = false := beq_f h1
    go_enter Try.func34, Try.ntmps34
    go_wp2_with fail
    all_goals
      go_ret
      exact ⟨(congrArg (fun b => Ending.returned (Value.bool b)) (decide_eq_decide.2 (by omega))), below_new (below_new (Below.refl _ _) _) _⟩
end Go.Proofs.Ytdhgcmodlikckaa
