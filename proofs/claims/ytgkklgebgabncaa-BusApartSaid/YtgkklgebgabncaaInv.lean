/- A method called through an interface value: the call, in a walk and in a walk that only reads. -/
import Derived.Test.YtgkklgebgabncaaPart
import Derived.BigQuiet
namespace Go.Proofs.Ytgkklgebgabncaa
open Go.RowKit
set_option linter.unusedVariables false
set_option linter.unusedSimpArgs false
theorem run_invoke_at {P : Program} {o : Oper} {a : Act} {w : World} (recv : Operand) (name : String) (xs : Array Operand) (ats : Array TypeId) (hop : o.op = .call { callee := .invoke recv name, args := xs, argTypes := ats }) (rv : Value) (hr : a.eval recv = rv) (vs : Array Value) (hv : xs.toList.map a.eval = vs.toList)
    {f : FuncId} {args : Array Value} (h : (callMethod rv name vs).run P w = .ok (.enter f args) w) : (execOp a.eval o).run P w = .ok (.enter f args) w := by
  have hv' : xs.map a.eval = vs := by
    apply Array.ext'
    rw [Array.toList_map]
    exact hv
  have e1 : (#[rv] ++ vs)[0]? = some rv := by
    rw [Array.getElem?_append_left (by simp)]
    rfl
  have e2 : (#[rv] ++ vs).extract 1 (#[rv] ++ vs).size = vs := by
    apply Array.ext'
    simp
  have e3 : (execOp a.eval o).run P w = (invoke (.fn (.method name) #[]) (#[rv] ++ vs)).run P w := by
    simp only [execOp, hop, resolve, hr, hv']
    rfl
  rw [e3]
  unfold invoke
  simp only [e1, e2]
  exact h
theorem wpList_invoke_at {P : Program} {ops : Array Oper} {rest : List Oper} {o : Oper} {a : Act} {w : World} {Q : Exit → Act → World → Prop} (hg : o.guard = none) (recv : Operand) (name : String) (xs : Array Operand) (ats : Array TypeId) (hop : o.op = .call { callee := .invoke recv name, args := xs, argTypes := ats }) (rv : Value) (hr : a.eval recv = rv) (vs : Array Value) (hv : xs.toList.map a.eval = vs.toList)
    {f : FuncId} {args : Array Value} (h : (callMethod rv name vs).run P w = .ok (.enter f args) w)
    (hK : Calls P f args w fun e w' => ∃ v, e = .returned v ∧ wpList P ops Q rest (a.put o.dst v) w') : wpList P ops Q (o :: rest) a w := by
  refine wpList_plain hg fun K' hK' => ?_
  unfold Oper.wp
  rw [run_invoke_at recv name xs ats hop rv hr vs hv h, Oper.upon_enter]
  refine hK.mono ?_
  rintro e w' ⟨v, rfl, hq⟩
  exact hK' _ _ hq
theorem wpQuiet_invoke_at {P : Program} {ops : Array Oper} {C : World → Prop} {Q : Act → Prop} {a : Act} {o : Oper} {rest : List Oper} (hw : Region.wanted o (yielded ops a.tmps) = true) (recv : Operand) (name : String) (xs : Array Operand) (ats : Array TypeId) (hop : o.op = .call { callee := .invoke recv name, args := xs, argTypes := ats }) (rv : Value) (hr : a.eval recv = rv) (vs : Array Value) (hv : xs.toList.map a.eval = vs.toList)
    {f : FuncId} {args : Array Value} (h : ∀ w, (callMethod rv name vs).run P w = .ok (.enter f args) w) (v : Value) (hC : ∀ w, C w → Calls P f args w fun e w' => e = .returned v ∧ C w')
    (hk : wpQuiet P ops C Q rest (a.put o.dst v)) : wpQuiet P ops C Q (o :: rest) a :=
  BigFrame.wpQuiet_want hw fun K hK => ⟨v, fun w hw' => by
    unfold Oper.quietAt
    rw [run_invoke_at recv name xs ats hop rv hr vs hv (h w)]
    exact ⟨rfl, hC w hw'⟩, hK _ hk⟩
end Go.Proofs.Ytgkklgebgabncaa
