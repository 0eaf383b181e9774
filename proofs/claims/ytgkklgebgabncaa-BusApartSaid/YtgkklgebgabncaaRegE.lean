/- A nil file of registers. -/
import Derived.Test.YtgkklgebgabncaaRgA
import Derived.WalkMore
namespace Go.Proofs.Ytgkklgebgabncaa
open Go.RowKit
set_option linter.unusedVariables false
set_option linter.unusedSimpArgs false
set_option maxHeartbeats 8000000 in
set_option maxRecDepth 100000 in
theorem fAgain_nil (w : World) :
    Calls Try.prog 19 #[.pointer none] w fun e w' => e = .returned (.tuple #[]) ∧ Below w.heap.size w w' := by
  go_enter Try.func19, Try.ntmps19
  go_step3
  go_wp2_with fail
  rw [Exit.noGoto_ret]
  refine bodyPost_ret (results_none rfl _ _ _) rfl ?_
  exact ⟨rfl, Below.refl _ _⟩
set_option maxHeartbeats 8000000 in
set_option maxRecDepth 100000 in
theorem find_nil (off : Int) (w : World) :
    Calls Try.prog 41 #[.pointer none, .int .u32 off] w fun e w' => e = .returned (.tuple #[.agg #[.int .u32 0, .int .u32 0, .int .u32 0, .int .u32 0], .int .i64 10]) ∧ Below w.heap.size w w' := by
  go_enter Try.func41, Try.ntmps41
  go_wp2_with fail
  refine bodyPost_ret (v := .tuple #[.agg #[.int .u32 0, .int .u32 0, .int .u32 0, .int .u32 0], .int .i64 10]) (by simp [results, Try.results41, go_sem]) rfl ⟨rfl, ?_⟩
  repeat (first | exact Below.refl _ _ | exact Ext.ok _ | refine below_new ?_ _ | refine below_set ?_ (by simp) _)
set_option maxHeartbeats 8000000 in
set_option maxRecDepth 100000 in
theorem load_nil (off : Int) (w : World) :
    Calls Try.prog 14 #[.pointer none, .int .u32 off] w fun e w' => e = .returned (.tuple #[.int .u32 0, .int .i64 10]) ∧ Below w.heap.size w w' := by
  go_enter Try.func14, Try.ntmps14
  refine wp_start (w := w) ?_
  intro x
  go_wp2_with (go_at_call 41; refine (find_nil _ _).mono ?_; rintro e wr ⟨rfl, hbr⟩; obtain ⟨y, rfl⟩ := Ext.step _ hbr; clear hbr)
  refine bodyPost_ret (v := .tuple #[.int .u32 0, .int .i64 10]) (by simp [results, Try.results14, go_sem]) rfl ⟨rfl, ?_⟩
  repeat (first | exact Below.refl _ _ | exact Ext.ok _ | refine below_new ?_ _ | refine below_set ?_ (by simp) _)
set_option maxHeartbeats 8000000 in
set_option maxRecDepth 100000 in
theorem define_nil (off a b c d : Int) (w : World) :
    Calls Try.prog 12 #[.pointer none, .int .u32 off, .agg #[.int .u32 a, .int .u32 b, .int .u32 c, .int .u32 d]] w fun e w' => e = .returned (.int .i64 10) ∧ Below w.heap.size w w' := by
  go_enter Try.func12, Try.ntmps12
  go_wp2_with fail
  refine (find_nil _ _).mono ?_
  rintro e w1 ⟨rfl, hb⟩
  go_wp2_with fail
  go_ret
  refine ⟨rfl, ?_⟩
  repeat (first | exact Below.refl _ _ | refine below_then ?_ hb | refine below_new ?_ _ | refine below_set ?_ (by simp) _)
set_option maxHeartbeats 8000000 in
set_option maxRecDepth 100000 in
theorem turn_nil (off : Int) (g : Value) (w : World) :
    Calls Try.prog 45 #[.pointer none, .int .u32 off, g] w fun e w' => e = .returned (.int .i64 10) ∧ Below w.heap.size w w' := by
  go_enter Try.func45, Try.ntmps45
  go_wp2_with fail
  refine (find_nil _ _).mono ?_
  rintro e w1 ⟨rfl, hb⟩
  go_wp2_with fail
  go_ret
  refine ⟨rfl, ?_⟩
  repeat (first | exact Below.refl _ _ | refine below_then ?_ hb | refine below_new ?_ _ | refine below_set ?_ (by simp) _)
set_option maxHeartbeats 8000000 in
set_option maxRecDepth 100000 in
theorem fStore_nil (off v : Int) (w : World) :
    Calls Try.prog 16 #[.pointer none, .int .u32 off, .int .u32 v] w fun e w' => e = .returned (.int .i64 10) ∧ Below w.heap.size w w' := by
  go_enter Try.func16, Try.ntmps16
  go_wp2_with fail
  refine (turn_nil _ _ _).mono ?_
  rintro e w1 ⟨rfl, hb⟩
  go_wp2_with fail
  go_ret
  refine ⟨rfl, ?_⟩
  repeat (first | exact Below.refl _ _ | refine below_then ?_ hb | refine below_new ?_ _ | refine below_set ?_ (by simp) _)
set_option maxHeartbeats 8000000 in
set_option maxRecDepth 100000 in
theorem fTurn_nil (off v u : Int) (w : World) :
    Calls Try.prog 18 #[.pointer none, .int .u32 off, .int .u32 v, .int .u32 u] w fun e w' => e = .returned (.int .i64 10) ∧ Below w.heap.size w w' := by
  go_enter Try.func18, Try.ntmps18
  go_wp2_with fail
  refine (turn_nil _ _ _).mono ?_
  rintro e w1 ⟨rfl, hb⟩
  go_wp2_with fail
  go_ret
  refine ⟨rfl, ?_⟩
  repeat (first | exact Below.refl _ _ | refine below_then ?_ hb | refine below_new ?_ _ | refine below_set ?_ (by simp) _)
set_option maxHeartbeats 8000000 in
set_option maxRecDepth 100000 in
theorem offs_nil (w : World) :
    Calls Try.prog 24 #[.pointer none] w fun e w' => e = .returned (.slice none 0 0) ∧ Below w.heap.size w w' := by
  go_enter Try.func24, Try.ntmps24
  go_wp2_with fail
  go_ret
  exact ⟨rfl, Below.refl _ _⟩
set_option maxHeartbeats 8000000 in
set_option maxRecDepth 100000 in
theorem copy_nil (w : World) :
    Calls Try.prog 21 #[.pointer none] w fun e w' => e = .returned (.pointer none) ∧ Below w.heap.size w w' := by
  go_enter Try.func21, Try.ntmps21
  go_wp2_with fail
  go_ret
  exact ⟨rfl, Below.refl _ _⟩
set_option maxHeartbeats 8000000 in
set_option maxRecDepth 100000 in
theorem RegNil_walk (off v : Int) (W : World) (o0 : 0 ≤ off) (o1 : off ≤ 4294967295) (v0 : 0 ≤ v) (v1 : v ≤ 4294967295) :
    Calls Try.prog 4 #[.int .u32 off, .int .u32 v] W fun e w' => e = .returned (.bool true) ∧ Below W.heap.size W w' := by
  go_enter Try.func4, Try.ntmps4
  refine wp_start (w := W) ?_
  intro x
  go_wp2_with (first | (go_at_call 19; refine (fAgain_nil _).mono ?_; rintro e wr ⟨rfl, hbr⟩; obtain ⟨y, rfl⟩ := Ext.step _ hbr; clear hbr) | (go_at_call 14; refine (load_nil _ _).mono ?_; rintro e wr ⟨rfl, hbr⟩; obtain ⟨y, rfl⟩ := Ext.step _ hbr; clear hbr) | (go_at_call 23; refine (known02 _).mono ?_; rintro e wr ⟨rfl, hbr⟩; obtain ⟨y, rfl⟩ := Ext.step _ hbr; clear hbr) | (go_at_call 12; refine (define_nil _ _ _ _ _ _).mono ?_; rintro e wr ⟨rfl, hbr⟩; obtain ⟨y, rfl⟩ := Ext.step _ hbr; clear hbr) | (go_at_call 16; refine (fStore_nil _ _ _).mono ?_; rintro e wr ⟨rfl, hbr⟩; obtain ⟨y, rfl⟩ := Ext.step _ hbr; clear hbr) | (go_at_call 18; refine (fTurn_nil _ _ _ _).mono ?_; rintro e wr ⟨rfl, hbr⟩; obtain ⟨y, rfl⟩ := Ext.step _ hbr; clear hbr) | (go_at_call 24; refine (offs_nil _).mono ?_; rintro e wr ⟨rfl, hbr⟩; obtain ⟨y, rfl⟩ := Ext.step _ hbr; clear hbr) | (go_at_call 21; refine (copy_nil _).mono ?_; rintro e wr ⟨rfl, hbr⟩; obtain ⟨y, rfl⟩ := Ext.step _ hbr; clear hbr))
  go_ret
  exact ⟨rfl, Ext.ok _⟩
end Go.Proofs.Ytgkklgebgabncaa
