/- A histogram that is nil. -/
import Derived.Test.YtaihebdjhbnhoaaHistB
import Derived.WalkMore
namespace Go.Proofs.Ytaihebdjhbnhoaa
open Go.RowKit
set_option linter.unusedVariables false
set_option linter.unusedSimpArgs false
set_option maxHeartbeats 4000000 in
set_option maxRecDepth 100000 in
theorem of_nil (w : World) : Calls Try.prog 47 #[.pointer none] w fun e w' => e = .returned (.agg #[.int .i64 0, .int .u64 0, .int .u64 0, .int .u64 0]) ∧ Below w.heap.size w w' := by
  go_enter Try.func47, Try.ntmps47
  go_wp2_with fail
  refine bodyPost_ret (v := .agg #[.int .i64 0, .int .u64 0, .int .u64 0, .int .u64 0]) (by simp [results, Try.results47, go_sem]) rfl ?_
  exact ⟨rfl, by
               iterate 1 refine below_new ?_ _
               exact Below.refl _ _⟩
theorem fld0 (sc ss sl sm : Int) (w : World) : (Instr.field 73 (.agg #[.int .i64 sc, .int .u64 ss, .int .u64 sl, .int .u64 sm]) 0).run Try.prog w = .ok (.int .i64 sc) w := by kernel_rfl
theorem fld1 (sc ss sl sm : Int) (w : World) : (Instr.field 73 (.agg #[.int .i64 sc, .int .u64 ss, .int .u64 sl, .int .u64 sm]) 1).run Try.prog w = .ok (.int .u64 ss) w := by kernel_rfl
theorem fld2 (sc ss sl sm : Int) (w : World) : (Instr.field 73 (.agg #[.int .i64 sc, .int .u64 ss, .int .u64 sl, .int .u64 sm]) 2).run Try.prog w = .ok (.int .u64 sl) w := by kernel_rfl
theorem fld3 (sc ss sl sm : Int) (w : World) : (Instr.field 73 (.agg #[.int .i64 sc, .int .u64 ss, .int .u64 sl, .int .u64 sm]) 3).run Try.prog w = .ok (.int .u64 sm) w := by kernel_rfl
set_option maxHeartbeats 4000000 in
set_option maxRecDepth 100000 in
theorem count_nil (w : World) : Calls Try.prog 23 #[.pointer none] w fun e w' => e = .returned (.int .i64 0) ∧ Below w.heap.size w w' := by
  have f0 := fld0 0 0 0 0
  have f1 := fld1 0 0 0 0
  have f2 := fld2 0 0 0 0
  have f3 := fld3 0 0 0 0
  go_enter Try.func23, Try.ntmps23
  go_wp2_with (go_at_call 47; refine (of_nil _).mono ?_; rintro e w' ⟨rfl, hb⟩)
  go_ret
  exact ⟨rfl, hb⟩
set_option maxHeartbeats 4000000 in
set_option maxRecDepth 100000 in
theorem sum_nil (w : World) : Calls Try.prog 25 #[.pointer none] w fun e w' => e = .returned (.int .u64 0) ∧ Below w.heap.size w w' := by
  have f0 := fld0 0 0 0 0
  have f1 := fld1 0 0 0 0
  have f2 := fld2 0 0 0 0
  have f3 := fld3 0 0 0 0
  go_enter Try.func25, Try.ntmps25
  go_wp2_with (go_at_call 47; refine (of_nil _).mono ?_; rintro e w' ⟨rfl, hb⟩)
  go_ret
  exact ⟨rfl, hb⟩
set_option maxHeartbeats 4000000 in
set_option maxRecDepth 100000 in
theorem copy_nil (w : World) : Calls Try.prog 19 #[.pointer none] w fun e w' => e = .returned (.pointer none) ∧ Below w.heap.size w w' := by
  have f0 := fld0 0 0 0 0
  have f1 := fld1 0 0 0 0
  have f2 := fld2 0 0 0 0
  have f3 := fld3 0 0 0 0
  go_enter Try.func19, Try.ntmps19
  go_wp2_with fail
  go_ret
  exact ⟨rfl, Below.refl _ _⟩
set_option maxHeartbeats 4000000 in
set_option maxRecDepth 100000 in
theorem least_nil (w : World) : Calls Try.prog 17 #[.pointer none] w fun e w' => e = .returned (.tuple #[.int .u64 0, .bool false]) ∧ Below w.heap.size w w' := by
  have f0 := fld0 0 0 0 0
  have f1 := fld1 0 0 0 0
  have f2 := fld2 0 0 0 0
  have f3 := fld3 0 0 0 0
  go_enter Try.func17, Try.ntmps17
  go_wp2_with (first | (go_at_call 47; refine (of_nil _).mono ?_; rintro e w' ⟨rfl, hb⟩) | (go_at_call 23; refine (count_nil _).mono ?_; rintro e w' ⟨rfl, hb2⟩))
  go_ret2
  exact ⟨rfl, below_then hb hb2⟩
set_option maxHeartbeats 4000000 in
set_option maxRecDepth 100000 in
theorem most_nil (w : World) : Calls Try.prog 18 #[.pointer none] w fun e w' => e = .returned (.tuple #[.int .u64 0, .bool false]) ∧ Below w.heap.size w w' := by
  have f0 := fld0 0 0 0 0
  have f1 := fld1 0 0 0 0
  have f2 := fld2 0 0 0 0
  have f3 := fld3 0 0 0 0
  go_enter Try.func18, Try.ntmps18
  go_wp2_with (first | (go_at_call 47; refine (of_nil _).mono ?_; rintro e w' ⟨rfl, hb⟩) | (go_at_call 23; refine (count_nil _).mono ?_; rintro e w' ⟨rfl, hb2⟩))
  go_ret2
  exact ⟨rfl, below_then hb hb2⟩
set_option maxHeartbeats 4000000 in
set_option maxRecDepth 100000 in
theorem part_nil (k : Int) (w : World) : Calls Try.prog 16 #[.pointer none, .int .i64 k] w fun e w' => e = .returned (.tuple #[.int .u64 0, .int .u64 0, .bool false]) ∧ Below w.heap.size w w' := by
  have f0 := fld0 0 0 0 0
  have f1 := fld1 0 0 0 0
  have f2 := fld2 0 0 0 0
  have f3 := fld3 0 0 0 0
  go_enter Try.func16, Try.ntmps16
  go_wp2_with fail
  go_step3
  go_wp2_with (go_at_call 23; refine (count_nil _).mono ?_; rintro e w' ⟨rfl, hb⟩)
  simp only [Exit.noGoto]
  refine bodyPost_ret (by simp [results, Try.results16, go_sem]; rfl) rfl ?_
  exact ⟨rfl, hb⟩
set_option maxHeartbeats 4000000 in
set_option maxRecDepth 100000 in
theorem bucket_nil (k : Int) (w : World) (k0 : -9223372036854775808 ≤ k) (k1 : k ≤ 9223372036854775807) : Calls Try.prog 24 #[.pointer none, .int .i64 k] w fun e w' => e = .returned (.int .i64 0) ∧ Below w.heap.size w w' := by
  have f0 := fld0 0 0 0 0
  have f1 := fld1 0 0 0 0
  have f2 := fld2 0 0 0 0
  have f3 := fld3 0 0 0 0
  go_enter Try.func24, Try.ntmps24
  go_wp2_with (go_at_call 12; refine (ends_any k _ k0 k1).mono ?_; rintro e w' ⟨rfl, hb⟩)
  go_ret
  exact ⟨rfl, hb⟩
set_option maxHeartbeats 4000000 in
set_option maxRecDepth 100000 in
theorem add_nil (a : Option Addr) (l c : Nat) (w : World) : Calls Try.prog 15 #[.pointer none, .slice a l c] w fun e w' => e = .returned (.tuple #[]) ∧ Below w.heap.size w w' := by
  have f0 := fld0 0 0 0 0
  have f1 := fld1 0 0 0 0
  have f2 := fld2 0 0 0 0
  have f3 := fld3 0 0 0 0
  go_enter Try.func15, Try.ntmps15
  go_wp2_with fail
  refine bodyPost_ret (results_none rfl _ _ _) rfl ?_
  exact ⟨rfl, Below.refl _ _⟩
set_option maxHeartbeats 4000000 in
set_option maxRecDepth 100000 in
theorem merge_nil (v : Value) (w : World) : Calls Try.prog 22 #[.pointer none, v] w fun e w' => e = .returned (.tuple #[]) ∧ Below w.heap.size w w' := by
  have f0 := fld0 0 0 0 0
  have f1 := fld1 0 0 0 0
  have f2 := fld2 0 0 0 0
  have f3 := fld3 0 0 0 0
  go_enter Try.func22, Try.ntmps22
  go_wp2_with fail
  refine bodyPost_ret (results_none rfl _ _ _) rfl ?_
  exact ⟨rfl, Below.refl _ _⟩
end Go.Proofs.Ytaihebdjhbnhoaa
