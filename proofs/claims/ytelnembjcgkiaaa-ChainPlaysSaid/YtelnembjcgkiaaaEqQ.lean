/- Arrays held against each other in a quiet walk. -/
import Derived.Test.YtelnembjcgkiaaaGrowB
import Derived.Test.YtelnembjcgkiaaaFree
import Derived.Test.YtelnembjcgkiaaaMapQ
namespace Go.Proofs.Ytelnembjcgkiaaa
open Go.RowKit
set_option linter.unusedVariables false
set_option linter.unusedSimpArgs false
theorem wpQuiet_eql_agg {P : Program} {ops : Array Oper} {C : World → Prop} {Q : Act → Prop} {a : Act} {o : Oper} {rest : List Oper} (hw : Region.wanted o (yielded ops a.tmps) = true) (t ty : TypeId) (x y : Operand) (ho : o.op = .binOp .eql t x y ty)
    (u v : Array Value) (hx : a.eval x = .agg u) (hy : a.eval y = .agg v) (b : Bool) (hg : P.eqGuardType P.depth t = false) (h : ∀ w, (binOp .eql t (.agg u) (.agg v)).run P w = .ok (.bool b) w) (hk : wpQuiet P ops C Q rest (a.put o.dst (.bool b))) : wpQuiet P ops C Q (o :: rest) a :=
  wpQuiet_run hw _ (fun w _ => by
    unfold execOp
    simp only [ho, hx, hy, Sem.run_bind, run_eqGuard_agg _ _ _ _ _ _ _ hg, Result.andThen_ok, h, Sem.run_pure]) hk
theorem wpQuiet_neq_agg {P : Program} {ops : Array Oper} {C : World → Prop} {Q : Act → Prop} {a : Act} {o : Oper} {rest : List Oper} (hw : Region.wanted o (yielded ops a.tmps) = true) (t ty : TypeId) (x y : Operand) (ho : o.op = .binOp .neq t x y ty)
    (u v : Array Value) (hx : a.eval x = .agg u) (hy : a.eval y = .agg v) (b : Bool) (hg : P.eqGuardType P.depth t = false) (h : ∀ w, (binOp .neq t (.agg u) (.agg v)).run P w = .ok (.bool b) w) (hk : wpQuiet P ops C Q rest (a.put o.dst (.bool b))) : wpQuiet P ops C Q (o :: rest) a :=
  wpQuiet_run hw _ (fun w _ => by
    unfold execOp
    simp only [ho, hx, hy, Sem.run_bind, run_eqGuard_agg _ _ _ _ _ _ _ hg, Result.andThen_ok, h, Sem.run_pure]) hk
/-- The same, the operation asked first. -/
theorem wpQuiet_eql_agg2 {P : Program} {ops : Array Oper} {C : World → Prop} {Q : Act → Prop} {a : Act} {o : Oper} {rest : List Oper} (t ty : TypeId) (x y : Operand) (ho : o.op = .binOp .eql t x y ty) (hw : Region.wanted o (yielded ops a.tmps) = true)
    (u v : Array Value) (hx : a.eval x = .agg u) (hy : a.eval y = .agg v) (b : Bool) (hg : P.eqGuardType P.depth t = false) (h : ∀ w, (binOp .eql t (.agg u) (.agg v)).run P w = .ok (.bool b) w) (hk : wpQuiet P ops C Q rest (a.put o.dst (.bool b))) : wpQuiet P ops C Q (o :: rest) a := wpQuiet_eql_agg hw t ty x y ho u v hx hy b hg h hk
/-- The same, the operation asked first. -/
theorem wpQuiet_neq_agg2 {P : Program} {ops : Array Oper} {C : World → Prop} {Q : Act → Prop} {a : Act} {o : Oper} {rest : List Oper} (t ty : TypeId) (x y : Operand) (ho : o.op = .binOp .neq t x y ty) (hw : Region.wanted o (yielded ops a.tmps) = true)
    (u v : Array Value) (hx : a.eval x = .agg u) (hy : a.eval y = .agg v) (b : Bool) (hg : P.eqGuardType P.depth t = false) (h : ∀ w, (binOp .neq t (.agg u) (.agg v)).run P w = .ok (.bool b) w) (hk : wpQuiet P ops C Q rest (a.put o.dst (.bool b))) : wpQuiet P ops C Q (o :: rest) a := wpQuiet_neq_agg hw t ty x y ho u v hx hy b hg h hk
end Go.Proofs.Ytelnembjcgkiaaa
