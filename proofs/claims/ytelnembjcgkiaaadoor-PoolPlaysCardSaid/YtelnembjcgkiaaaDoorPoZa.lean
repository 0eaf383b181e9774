/- The document's pool: Drop of no live handle. -/
import Derived.Test.YtelnembjcgkiaaaDoorPoZ
namespace Go.Proofs.YtelnembjcgkiaaaDoor
open Go.RowKit
set_option linter.unusedVariables false
set_option linter.unusedSimpArgs false

set_option maxHeartbeats 8000000 in
set_option maxRecDepth 100000 in
theorem rdrop_no (v : Value) (h : Int) (w : World) (hf : Calls Tryd.prog 19 #[v, .int .u64 h] w fun e w' => e = .returned (.int .i64 (-1)) ∧ Below w.heap.size w w') :
    Calls Tryd.prog 21 #[v, .int .u64 h] w fun e w' => e = .returned v ∧ Below w.heap.size w w' := by
  have HF := Lib.hid hf
  clear hf
  go_enter Tryd.func21, Tryd.ntmps21
  go_wp2_with (go_at_call 19; refine HF.out.mono ?_; rintro e w1 ⟨rfl, hb1⟩)
  go_ret
  exact ⟨rfl, hb1⟩
end Go.Proofs.YtelnembjcgkiaaaDoor
