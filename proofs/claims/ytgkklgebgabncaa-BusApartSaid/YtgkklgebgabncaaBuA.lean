/- Regions of a bus: end, Meet, Has. -/
import Derived.Test.YtgkklgebgabncaaProg
import Derived.Test.YtgkklgebgabncaaTail
import Derived.Test.YtgkklgebgabncaaRowat
import Derived.Test.YtgkklgebgabncaaGrow
import Derived.Deep.Cut
namespace Go.Proofs.Ytgkklgebgabncaa
open Go.RowKit
set_option linter.unusedVariables false
set_option linter.unusedSimpArgs false

def rk (p : Int × Int) : Value := .agg #[.int .u32 p.1, .int .u32 p.2]
structure R32 (p : Int × Int) : Prop where
  a0 : 0 ≤ p.1
  a1 : p.1 ≤ 4294967295
  b0 : 0 ≤ p.2
  b1 : p.2 ≤ 4294967295
def endI (p : Int × Int) : Int := min (p.1 + p.2) 4294967296
def meetB (p q : Int × Int) : Bool := decide (max p.1 q.1 < min (endI p) (endI q))
def hasB (p : Int × Int) (x : Int) : Bool := meetB p (x, 1)
set_option maxHeartbeats 8000000 in
set_option maxRecDepth 100000 in
theorem end_any (p1 p2 : Int) (hp : R32 (p1, p2)) (w : World) :
    Calls Try.prog 57 #[.agg #[.int .u32 p1, .int .u32 p2]] w fun e w' => e = .returned (.int .u64 (endI (p1, p2))) ∧ Below w.heap.size w w' := by
  have e1 : IntKind.u64.wrap (p1 + p2) = p1 + p2 := by have := hp.a0; have := hp.a1; have := hp.b0; have := hp.b1; rw [IntKind.wrap_u64]; omega
  have e2 : IntKind.u64.wrap p1 = p1 := by have := hp.a0; have := hp.a1; rw [IntKind.wrap_u64]; omega
  have e3 : IntKind.u64.wrap p2 = p2 := by have := hp.b0; have := hp.b1; rw [IntKind.wrap_u64]; omega
  go_enter Try.func57, Try.ntmps57
  go_wp2_with fail
  all_goals
    go_ret
    exact ⟨ret_int (by unfold endI; dsimp only; omega), below_new (Below.refl _ _) _⟩
set_option maxHeartbeats 8000000 in
set_option maxRecDepth 100000 in
theorem meet_any (p1 p2 q1 q2 : Int) (hp : R32 (p1, p2)) (hq : R32 (q1, q2)) (w : World) :
    Calls Try.prog 26 #[.agg #[.int .u32 p1, .int .u32 p2], .agg #[.int .u32 q1, .int .u32 q2]] w fun e w' => e = .returned (.bool (meetB (p1, p2) (q1, q2))) ∧ Below w.heap.size w w' := by
  go_enter Try.func26, Try.ntmps26
  go_wp2_with fail
  refine wp_box2 ?_
  intro W hB hb1 hb2 _
  obtain ⟨hk1, hf1⟩ := Ext.cells hb1
  obtain ⟨hk2, hf2⟩ := Ext.cells hb2
  refine wp_start (w := W) ?_
  intro x
  refine wp_region_ext _ (by kernel_rfl) (by kernel_rfl) ?_
  repeat (go_big_quiet_step ((go_at_call 57; exact Ext.call (end_any _ _ (by assumption) _))))
  refine wpQuiet_nil ?_
  rintro _ ⟨y, rfl⟩
  have m1 : (if p1 < q1 then q1 else p1) = max p1 q1 := by split <;> omega
  have m2 : (if endI (q1, q2) < endI (p1, p2) then endI (q1, q2) else endI (p1, p2)) = min (endI (p1, p2)) (endI (q1, q2)) := by split <;> omega
  have m3 : IntKind.u64.wrap (max p1 q1) = max p1 q1 := by have := hp.a0; have := hp.a1; have := hq.a0; have := hq.a1; rw [IntKind.wrap_u64]; dsimp only at *; omega
  simp only [m1, m2, m3]
  clear m1 m2 m3
  generalize hM : decide (max p1 q1 < min (endI (p1, p2)) (endI (q1, q2))) = M
  go_wp2_with fail
  go_ret
  exact ⟨ret_bool hM.symm, below_then hB y.ok⟩
set_option maxHeartbeats 8000000 in
set_option maxRecDepth 100000 in
theorem has_any (p1 p2 x : Int) (hp : R32 (p1, p2)) (h0 : 0 ≤ x) (h1 : x ≤ 4294967295) (w : World) :
    Calls Try.prog 28 #[.agg #[.int .u32 p1, .int .u32 p2], .int .u32 x] w fun e w' => e = .returned (.bool (hasB (p1, p2) x)) ∧ Below w.heap.size w w' := by
  go_enter Try.func28, Try.ntmps28
  go_wp2_with fail
  refine (meet_any _ _ _ _ hp ⟨h0, h1, (show (0:Int) ≤ 1 by decide), (show (1:Int) ≤ 4294967295 by decide)⟩ _).mono ?_
  rintro e wr ⟨rfl, hb⟩
  go_wp2_with fail
  go_ret
  exact ⟨rfl, below_then (below_new (Below.refl _ _) _) hb⟩
end Go.Proofs.Ytgkklgebgabncaa
