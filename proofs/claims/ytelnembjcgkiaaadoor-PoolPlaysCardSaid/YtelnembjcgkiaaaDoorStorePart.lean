/- A row is stored into a part of a block. -/
import Derived.Test.YtelnembjcgkiaaaDoorPart
namespace Go.Proofs.YtelnembjcgkiaaaDoor
open Go.RowKit
set_option linter.unusedVariables false
set_option linter.unusedSimpArgs false
theorem splice_step {α : Type} (l : List α) (p : Nat) (hp : p < l.length) (v : α) (rest : List α) :
    (l.set p v).take (p + 1) ++ rest ++ (l.set p v).drop (p + 1 + rest.length) = l.take p ++ (v :: rest) ++ l.drop (p + (rest.length + 1)) := by
  have e : l.set p v = l.take p ++ v :: l.drop (p + 1) := by
    rw [List.set_eq_take_append_cons_drop, if_pos hp]
  have hl : (l.take p).length = p := by simp; omega
  have e1 : (l.set p v).take (p + 1) = l.take p ++ [v] := by
    rw [e, List.take_append, hl, List.take_of_length_le (by omega)]
    simp
  have e2 : (l.set p v).drop (p + 1 + rest.length) = l.drop (p + (rest.length + 1)) := by
    rw [List.drop_set_of_lt (by omega)]
    congr 1
    omega
  rw [e1, e2]
  simp
theorem run_storeCells_part {P : Program} (g off : Nat) (t : TypeId) : ∀ (vs : List Value) (i : Nat) (l : List Value) (w : World), w.heap[g]? = some (.cells l.toArray t (0, 0)) → off + i + vs.length ≤ l.length → (∀ v ∈ vs, v.oneCell' = true) →
    (storeCells ⟨g, off, none⟩ vs i).run P w = .ok () (w.setRow g (l.take (off + i) ++ vs ++ l.drop (off + i + vs.length)).toArray)
  | [], i, l, w, hg, hl, _ => by
    have e : l.take (off + i) ++ [] ++ l.drop (off + i + 0) = l := by simp
    simp only [storeCells, List.length_nil, e]
    have hlt : g < w.heap.size := (Array.getElem?_eq_some_iff.1 hg).1
    have hs : w.setRow g l.toArray = w := by
      have hgg : w.heap[g] = .cells l.toArray t (0, 0) := by simpa [hlt] using hg
      unfold World.setRow
      congr 1
      apply Array.ext_getElem?
      intro k
      rw [Array.getElem?_modify]
      by_cases hk : g = k
      · subst hk; rw [if_pos rfl, hg]; rfl
      · rw [if_neg hk]
    rw [hs]
    rfl
  | v :: rest, i, l, w, hg, hl, h1 => by
    have hi : off + i < l.length := by simp at hl; omega
    have hcell : w.cell? ⟨g, off + i, none⟩ = some l[off + i] := by simp [World.cell?, hg, hi]
    have hfro : w.frozen? ⟨g, off + i, none⟩ = false := by simp [World.frozen?, hg]
    have hst : (store ((⟨g, off, none⟩ : Addr).add i) v).run P w = .ok () (w.setRow g (l.set (off + i) v).toArray) := by
      rw [add_at, run_store P w _ v _ (h1 v (by simp)), hcell]
      simp [hfro, setCell_eq_setRow w g (off + i) l.toArray t (0, 0) v hg]
    have ih := run_storeCells_part (P := P) g off t rest (i + 1) (l.set (off + i) v) (w.setRow g (l.set (off + i) v).toArray) (setRow_heap w g l.toArray _ t _ hg) (by simp at hl ⊢; omega) (fun x hx => h1 x (by simp [hx]))
    simp only [storeCells, Sem.run_bind, hst, Result.andThen_ok, ih, setRow_setRow]
    have hs := splice_step l (off + i) hi v rest
    simp only [Nat.add_assoc] at hs ⊢
    rw [List.length_cons]
    congr 2
    first | exact congrArg List.toArray hs | (congr 1)
/-- A whole value of more cells goes into a part of a block. -/
theorem wpList_store_part {P : Program} {ops : Array Oper} {rest : List Oper} {o : Oper} {a : Act} {w : World} {Q : Exit → Act → World → Prop} (hgd : o.guard = none) (ty : TypeId) (x y : Operand) (ho : o.op = .store ty x y)
    (g off : Nat) (vs : List Value) (hx : a.eval x = .pointer (some ⟨g, off, none⟩)) (hy : a.eval y = .agg vs.toArray)
    (t : TypeId) (l : List Value) (hg : w.heap[g]? = some (.cells l.toArray t (0, 0))) (hi : (P.info? ty).map (·.size) = some vs.length)
    (hl : off + vs.length ≤ l.length) (h1 : ∀ v ∈ vs, v.oneCell' = true)
    (h : wpList P ops Q rest (a.put o.dst undef) (w.setRow g (l.take off ++ vs ++ l.drop (off + vs.length)).toArray)) : wpList P ops Q (o :: rest) a w :=
  wpList_plain hgd fun _ hK => by
    have hs := run_storeCells_part (P := P) g off t vs 0 l w hg (by omega) h1
    simp only [Nat.add_zero] at hs
    have hv : (storeVar ty ⟨g, off, none⟩ (.agg vs.toArray)).run P w = .ok () (w.setRow g (l.take off ++ vs ++ l.drop (off + vs.length)).toArray) := by
      cases hq : P.info? ty with
      | none => simp [hq] at hi
      | some i =>
        have hsz : vs.length = i.size := by simp [hq] at hi; omega
        simp [storeVar, sizeOf, typeInfo, hq, Value.cells, hsz, hs]
        try (rw [hsz] at hs; exact hs)
    unfold Oper.wp execOp
    simp only [ho, hx, hy, Instr.storeAt, Instr.sureAddr, Sem.run_bind, Sem.run_pure, Result.andThen_ok, hv]
    exact hK _ _ h
end Go.Proofs.YtelnembjcgkiaaaDoor
