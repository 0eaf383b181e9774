/- x[k]++ in a region that draws its order. -/
import Derived.Test.YtelnembjcgkiaaaDoorMapQ
namespace Go.Proofs.YtelnembjcgkiaaaDoor
open Go.RowKit
set_option linter.unusedVariables false
set_option linter.unusedSimpArgs false
section
variable {P : Program} {ops : Array Oper} {o : Oper} {a : Act} {w w' : World} {K : Act → World → Prop} {Q : Exit → Act → World → Prop} {mt : TypeId}
theorem held_step (hw : Region.wanted o (yielded ops a.tmps) = true) (v : Value) (w' : World) (h : (execOp a.eval o).run P w = .ok (.value v) w') (hk : K (a.put o.dst v) w') :
    if Region.wanted o (yielded ops a.tmps) = true then Oper.wp P o a w K Q else K (a.put o.dst undef) w := by
  rw [if_pos hw]
  unfold Oper.wp
  rw [h]
  exact hk
theorem held_skip (hw : Region.wanted o (yielded ops a.tmps) = true) (w' : World) (h : (execOp a.eval o).run P w = .ok .skip w') (hk : K (a.put o.dst undef) w') :
    if Region.wanted o (yielded ops a.tmps) = true then Oper.wp P o a w K Q else K (a.put o.dst undef) w := by
  rw [if_pos hw]
  unfold Oper.wp
  rw [h]
  exact hk
theorem exec_lookup (m x : Operand) (hop : o.op = Op.lookup mt m x false) (u y v : Value) (hm : a.eval m = u) (hx : a.eval x = y) (h : (Instr.lookup mt u y false).run P w = .ok v w) : (execOp a.eval o).run P w = .ok (.value v) w := by
  simp [execOp, hop, hm, hx, h, Result.andThen]
theorem exec_entry (m x : Operand) (hop : o.op = Op.mapEntry mt m x) (u y v : Value) (hm : a.eval m = u) (hx : a.eval x = y) (h : (Instr.mapEntry mt u y).run P w = .ok v w') : (execOp a.eval o).run P w = .ok (.value v) w' := by
  simp [execOp, hop, hm, hx, h, Result.andThen]
theorem exec_entryStore (m x y : Operand) (hop : o.op = Op.entryStore mt m x y) (u s z : Value) (hm : a.eval m = u) (hx : a.eval x = s) (hy : a.eval y = z) (h : (Instr.entryStore mt u s z).run P w = .ok () w') : (execOp a.eval o).run P w = .ok .skip w' := by
  simp [execOp, hop, hm, hx, hy, h, Result.andThen]
end
end Go.Proofs.YtelnembjcgkiaaaDoor
