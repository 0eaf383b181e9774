/- Appending to a row of the call's own: where the row lies afterwards. -/
import Derived.Test.YtdhgcmodlikckaaSl
import Derived.Test.YtdhgcmodlikckaaOnly
import Derived.Maps.AppendAt
namespace Go.Proofs.Ytdhgcmodlikckaa
open Go.RowKit
set_option linter.unusedVariables false
set_option linter.unusedSimpArgs false
/-- One element is appended to a row of the call's own: it lay in a new block. -/
theorem wpList_grow1_at {P : Program} {ops : Array Oper} {rest : List Oper} {o : Oper} {a : Act} {Q : Exit → Act → World → Prop} {wr : World} (hgd : o.guard = none) (s x : Operand) (t : TypeId)
    (ho : o.op = .call { callee := .builtin .append, args := #[s, x], argTypes := #[t, t] }) (base : Nat) (e : TypeId) (sz by_ : Nat) (hT : P.underlying t = some (.slice e))
    (hI : (P.info? e).map (fun i => (i.zero.map (·.cells.size), i.size, i.bytes)) = some (some sz, sz, by_)) (hsz : 0 < sz) (hby : by_ ≤ 1000)
    (v : Value) (n : Nat) (xs : List Value) (hs : a.eval s = v) (hown : wr.ownsRow base e sz v n xs) (us : List Value) (hl : us.length = sz) (hx : a.eval x = .slice (some ⟨wr.heap.size, 0, none⟩) 1 1)
    (h1 : ∀ u ∈ us, u.oneCell' = true) (hn : n ≤ 1000000000) (hbase : base ≤ wr.heap.size) (fr : Nat × Nat)
    (h : ∀ v' w', w'.ownsRow base e sz v' (n + 1) (xs ++ us) → Only (fun k => some k = v.ownBlock) wr w' → (v'.ownBlock = v.ownBlock ∨ v'.ownBlock = some (wr.heap.size + 1)) → wpList P ops Q rest (a.put o.dst v') w') :
    wpList P ops Q (o :: rest) a (wr.alloc (.cells us.toArray e fr)) := by
  cases hi : P.info? e with
  | none => rw [hi] at hI; simp at hI
  | some i =>
    rw [hi] at hI
    simp only [Option.map_some, Option.some.injEq, Prod.mk.injEq] at hI
    obtain ⟨e1, e2, e3⟩ := hI
    cases hz : i.zero with
    | none => rw [hz] at e1; simp at e1
    | some z =>
      rw [hz] at e1
      simp only [Option.map_some, Option.some.injEq] at e1
      have hby2 : (n + 1) * by_ ≤ 140737488355328 := by
        have : (n + 1) * by_ ≤ 1000000001 * 1000 := Nat.mul_le_mul (by omega) hby
        omega
      have hN : ∀ j, (wr.alloc (.cells us.toArray e fr)).cell? ⟨wr.heap.size, j, none⟩ = us[j]? := fun j => by
        rw [cell_of_row _ _ j us.toArray e fr (heap_alloc_new wr _)]
        simp
      refine wpList_append_own_at _ hgd s x t ho base e i z sz by_ hT hi hz e2 e3 e1 hsz v n xs hs (hown.alloc _) ⟨wr.heap.size, 0, none⟩ 1 1 us hx (by omega) ?_ h1 (by unfold maxLen; omega) hby2 (by simp; omega) ?_
      · intro j u hu
        rw [addr_add, Nat.zero_add, hN j]
        exact hu
      · intro v' w' hown' hgrow _ hat
        refine h v' w' hown' ⟨hgrow.os, hgrow.tape, hgrow.output, Nat.le_trans (by simp) hgrow.size, fun g hg hne => ?_⟩ (by simpa using hat)
        exact (hgrow.block g (by simp; omega) hne).trans (Below.heap_alloc wr _ g hg)
theorem ownsRow_only {w w' : World} {S : Nat → Prop} {base : Nat} {e : TypeId} {size : Nat} {v : Value} {k : Nat} {xs : List Value} (h : w.ownsRow base e size v k xs) (ho : Only S w w') (hs : ∀ g, v.ownBlock = some g → ¬ S g) : w'.ownsRow base e size v k xs := by
  obtain ⟨h1, h2 | ⟨g, cap, cur, rfl, hb, hg, hn, hm, hs', ht⟩⟩ := h
  · exact ⟨h1, .inl h2⟩
  · exact ⟨h1, .inr ⟨g, cap, cur, rfl, hb, (ho.block g (block_lt hg) (hs g rfl)).trans hg, hn, hm, hs', ht⟩⟩
theorem ownsRow_base {w : World} {base : Nat} {e : TypeId} {size : Nat} {v : Value} {k : Nat} {xs : List Value} (h : w.ownsRow base e size v k xs) : ∀ g, v.ownBlock = some g → base ≤ g ∧ g < w.heap.size := by
  intro g hg
  rcases h.2 with ⟨rfl, _⟩ | ⟨g', cap, cur, rfl, hb, hg', _⟩
  · simp [Value.ownBlock] at hg
  · obtain rfl : g' = g := by simpa [Value.ownBlock] using hg
    exact ⟨hb, block_lt hg'⟩
theorem own_slice {w : World} {base : Nat} {e : TypeId} {size : Nat} {v : Value} {k : Nat} {xs : List Value} (h : w.ownsRow base e size v k xs) : ∃ a cap, v = .slice a k cap := by
  rcases h.2 with ⟨rfl, rfl⟩ | ⟨g', cap, cur, rfl, _⟩
  · exact ⟨none, 0, rfl⟩
  · exact ⟨_, cap, rfl⟩
end Go.Proofs.Ytdhgcmodlikckaa
