/- Maps in regions that draw their order. -/
import Derived.Test.YtdhgcmodlikckaaOnly
import Derived.Test.YtdhgcmodlikckaaPart
import Derived.Deep.RegionHeld3
namespace Go.Proofs.Ytdhgcmodlikckaa
open Go.RowKit
set_option linter.unusedVariables false
set_option linter.unusedSimpArgs false
section
variable {κ : Type} [DecidableEq κ] {P : Program} {b : Nat} {enc : κ → Value} {L : List (Ent κ)} {clock : Nat} {kt et mt : TypeId} {ops : Array Oper} {C : World → Prop} {Q : Act → Prop} {a : Act} {o : Oper} {rest : List Oper}
theorem wpQuiet_lookup_at (hw : Region.wanted o (yielded ops a.tmps) = true) (m x : Operand) (hop : o.op = Op.lookup mt m x false) (K : KeyEnc P kt enc) (ht : P.underlying mt = some (.map kt et)) (z : Value) (hz : ∀ w, (zeroValue et).run P w = .ok z w) (h : ∀ w, C w → MapAt w b enc L clock)
    (hm : a.eval m = .map (some b)) (k : κ) (hx : a.eval x = enc k) (v : Value) (hv : (valL k L).getD z = v) (hk : wpQuiet P ops C Q rest (a.put o.dst v)) : wpQuiet P ops C Q (o :: rest) a :=
  wpQuiet_run hw v (fun w hC => by
    have hrun := run_lookup_at K ht (hz w) (h w hC) k false
    simp only [Bool.false_eq_true, if_false] at hrun
    rw [hv] at hrun
    simp [execOp, hop, hm, hx, hrun, Result.andThen]) hk
theorem wpQuiet_lookup_ok_at (hw : Region.wanted o (yielded ops a.tmps) = true) (m x : Operand) (hop : o.op = Op.lookup mt m x true) (K : KeyEnc P kt enc) (ht : P.underlying mt = some (.map kt et)) (z : Value) (hz : ∀ w, (zeroValue et).run P w = .ok z w) (h : ∀ w, C w → MapAt w b enc L clock)
    (hm : a.eval m = .map (some b)) (k : κ) (hx : a.eval x = enc k) (v : Value) (t : Bool) (hv : (valL k L).getD z = v) (ht' : (valL k L).isSome = t) (hk : wpQuiet P ops C Q rest (a.put o.dst (.tuple #[v, .bool t]))) : wpQuiet P ops C Q (o :: rest) a :=
  wpQuiet_run hw _ (fun w hC => by
    have hrun := run_lookup_at K ht (hz w) (h w hC) k true
    simp only [if_true] at hrun
    rw [hv, ht'] at hrun
    simp [execOp, hop, hm, hx, hrun, Result.andThen]) hk
end
section
variable {κ : Type} [DecidableEq κ] {P : Program} {b : Nat} {enc : κ → Value} {L : List (Ent κ)} {clock : Nat} {kt et mt : TypeId} {ops : Array Oper} {S : World → Prop} {a : Act} {o : Oper}
theorem yieldsIf_lookup_at (hw : Region.wanted o (yielded ops a.tmps) = true) (m x : Operand) (hop : o.op = Op.lookup mt m x false) (K : KeyEnc P kt enc) (ht : P.underlying mt = some (.map kt et)) (z : Value) (hz : ∀ w, (zeroValue et).run P w = .ok z w) (h : ∀ w, S w → MapAt w b enc L clock)
    (hm : a.eval m = .map (some b)) (k : κ) (hx : a.eval x = enc k) (v : Value) (hv : (valL k L).getD z = v) : YieldsIf P ops S o v a :=
  .inl ⟨hw, fun w hC => by
    have hrun := run_lookup_at K ht (hz w) (h w hC) k false
    simp only [Bool.false_eq_true, if_false] at hrun
    rw [hv] at hrun
    simp [execOp, hop, hm, hx, hrun, Result.andThen]⟩
theorem yieldsIf_lookup_ok_at (hw : Region.wanted o (yielded ops a.tmps) = true) (m x : Operand) (hop : o.op = Op.lookup mt m x true) (K : KeyEnc P kt enc) (ht : P.underlying mt = some (.map kt et)) (z : Value) (hz : ∀ w, (zeroValue et).run P w = .ok z w) (h : ∀ w, S w → MapAt w b enc L clock)
    (hm : a.eval m = .map (some b)) (k : κ) (hx : a.eval x = enc k) (v : Value) (t : Bool) (hv : (valL k L).getD z = v) (ht' : (valL k L).isSome = t) : YieldsIf P ops S o (.tuple #[v, .bool t]) a :=
  .inl ⟨hw, fun w hC => by
    have hrun := run_lookup_at K ht (hz w) (h w hC) k true
    simp only [if_true] at hrun
    rw [hv, ht'] at hrun
    simp [execOp, hop, hm, hx, hrun, Result.andThen]⟩
end
theorem k_name {K : Act → World → Prop} {a : Act} {W : World} {Pr : World → Prop} (h : Pr W) (k : ∀ W', Pr W' → K a W') : K a W := k W h
theorem map_at_ext {κ : Type} [DecidableEq κ] {W : World} {b : Nat} {enc : κ → Value} {L : List (Ent κ)} {clock : Nat} (h : MapAt W b enc L clock) : ∀ w', (∃ y : Ext W.heap.size W, w' = y.world) → MapAt w' b enc L clock := by
  rintro _ ⟨y, rfl⟩
  exact h.ext y.ok
end Go.Proofs.Ytdhgcmodlikckaa
