/- Slices of whole numbers in memory, read and grown one by one. -/
import Derived.Test.YtdhgcmodlikckaaBut
import Derived.OwnWalk
import Derived.Laws.AppendOwn
import Derived.Tactics
namespace Go.Proofs.Ytdhgcmodlikckaa
open Go.RowKit
set_option linter.unusedVariables false
set_option linter.unusedSimpArgs false

theorem addr_add (g off j : Nat) : (⟨g, off, none⟩ : Addr).add j = ⟨g, off + j, none⟩ := by unfold Addr.add; split <;> simp_all
theorem addr_add_block (p : Addr) (k : Nat) : (p.add k).block = p.block := by unfold Addr.add; split <;> rfl
/-- One element is appended to a row of the call's own: it lay in a new block. -/
theorem wpList_grow1 {P : Program} {ops : Array Oper} {rest : List Oper} {o : Oper} {a : Act} {Q : Exit → Act → World → Prop} {w0 wr : World} (hgd : o.guard = none) (s x : Operand) (t : TypeId)
    (ho : o.op = .call { callee := .builtin .append, args := #[s, x], argTypes := #[t, t] }) (base : Nat) (e : TypeId) (sz by_ : Nat) (hT : P.underlying t = some (.slice e))
    (hI : (P.info? e).map (fun i => (i.zero.map (·.cells.size), i.size, i.bytes)) = some (some sz, sz, by_)) (hsz : 0 < sz) (hby : by_ ≤ 1000)
    (v : Value) (n : Nat) (xs : List Value) (hs : a.eval s = v) (hown : wr.ownsRow base e sz v n xs) (us : List Value) (hl : us.length = sz) (hx : a.eval x = .slice (some ⟨wr.heap.size, 0, none⟩) 1 1)
    (h1 : ∀ u ∈ us, u.oneCell' = true) (hn : n ≤ 1000000000) (hbase : base ≤ wr.heap.size) (hB : Below base w0 wr) (fr : Nat × Nat)
    (h : ∀ v' w', w'.ownsRow base e sz v' (n + 1) (xs ++ us) → Below base w0 w' → wr.heap.size < w'.heap.size → (∀ g, g < wr.heap.size → some g ≠ v.ownBlock → w'.heap[g]? = wr.heap[g]?) → wpList P ops Q rest (a.put o.dst v') w') :
    wpList P ops Q (o :: rest) a (wr.alloc (.cells us.toArray e fr)) := by
  cases hi : P.info? e with
  | none => rw [hi] at hI; simp at hI
  | some i =>
    rw [hi] at hI
    simp only [Option.map_some, Option.some.injEq, Prod.mk.injEq] at hI
    obtain ⟨e1, e2, e3⟩ := hI
    cases hz : i.zero with
    | none => rw [hz] at e1; simp at e1
    | some z =>
      rw [hz] at e1
      simp only [Option.map_some, Option.some.injEq] at e1
      have hby2 : (n + 1) * by_ ≤ 140737488355328 := by
        have : (n + 1) * by_ ≤ 1000000001 * 1000 := Nat.mul_le_mul (by omega) hby
        omega
      have hN : ∀ j, (wr.alloc (.cells us.toArray e fr)).cell? ⟨wr.heap.size, j, none⟩ = us[j]? := fun j => by
        rw [cell_of_row _ _ j us.toArray e fr (heap_alloc_new wr _)]
        simp
      refine wpList_append_own _ hgd s x t ho base e i z sz by_ hT hi hz e2 e3 e1 hsz v n xs hs (hown.alloc _) ⟨wr.heap.size, 0, none⟩ 1 1 us hx (by omega) ?_ h1 (by unfold maxLen; omega) hby2 (by simp; omega) ?_
      · intro j u hu
        rw [addr_add, Nat.zero_add, hN j]
        exact hu
      · intro v' w' hown' hgrow _
        refine h v' w' hown' ((hB.alloc hbase _).grown hgrow (by simp; omega) fun k hk => (hown.lt k hk).1) (Nat.lt_of_lt_of_le (by simp) hgrow.size) fun g hg hne => ?_
        exact (hgrow.block g (by simp; omega) hne).trans (Below.heap_alloc wr _ g hg)
/-- A slice that reads as a list of numbers; what is known of its block's number. -/
def Lst (kd : IntKind) (w : World) (v : Value) (L : List Int) (ok : Nat → Prop) : Prop :=
  ∃ a cap, v = .slice a L.length cap ∧ L.length ≤ cap ∧ cap ≤ maxLen ∧ (0 < L.length → ∃ p : Addr, a = some p ∧ p.block < w.heap.size ∧ ok p.block ∧ ∀ k (h : k < L.length), w.cell? (p.add k) = some (.int kd L[k]))
theorem Lst.mono {kd : IntKind} {w : World} {v : Value} {L : List Int} {ok ok' : Nat → Prop} (h : Lst kd w v L ok) (hk : ∀ g, ok g → ok' g) : Lst kd w v L ok' := by
  obtain ⟨a, cap, h1, h2, h3, h4⟩ := h
  exact ⟨a, cap, h1, h2, h3, fun h0 => by obtain ⟨p, q1, q2, q3, q4⟩ := h4 h0; exact ⟨p, q1, q2, hk _ q3, q4⟩⟩
theorem Lst.below {kd : IntKind} {w w' : World} {v : Value} {L : List Int} {ok : Nat → Prop} {B : Nat} (h : Lst kd w v L ok) (hb : Below B w w') (hok : ∀ g, g < w.heap.size → ok g → g < B) : Lst kd w' v L ok := by
  obtain ⟨a, cap, h1, h2, h3, h4⟩ := h
  exact ⟨a, cap, h1, h2, h3, fun h0 => by obtain ⟨p, q1, q2, q3, q4⟩ := h4 h0; exact ⟨p, q1, Nat.lt_of_lt_of_le q2 hb.size, q3, fun k hk => (hb.cell (by rw [addr_add_block]; exact hok _ q2 q3)).trans (q4 k hk)⟩⟩
theorem Lst.ext {kd : IntKind} {w w' : World} {v : Value} {L : List Int} {ok : Nat → Prop} (h : Lst kd w v L ok) (hb : Below w.heap.size w w') : Lst kd w' v L ok := h.below hb fun _ h _ => h
theorem Lst.but {kd : IntKind} {w w' : World} {v : Value} {L : List Int} {ok : Nat → Prop} {b : Nat} (h : Lst kd w v L ok) (hb : But b w w') (hok : ∀ g, ok g → g ≠ b) : Lst kd w' v L ok := by
  obtain ⟨a, cap, h1, h2, h3, h4⟩ := h
  exact ⟨a, cap, h1, h2, h3, fun h0 => by
    obtain ⟨p, q1, q2, q3, q4⟩ := h4 h0
    exact ⟨p, q1, Nat.lt_of_lt_of_le q2 hb.size, q3, fun k hk => (World.cell?_of_block (hb.block (p.add k).block (by rw [addr_add_block]; exact q2) (by rw [addr_add_block]; exact hok _ q3))).trans (q4 k hk)⟩⟩
theorem Lst.nil (kd : IntKind) (w : World) (ok : Nat → Prop) : Lst kd w (.slice none 0 0) [] ok := ⟨none, 0, rfl, by simp, by unfold maxLen; omega, fun h => by simp at h⟩
theorem Lst.slice {kd : IntKind} {w : World} {v : Value} {L : List Int} {ok : Nat → Prop} (h : Lst kd w v L ok) : ∃ a cap, v = .slice a L.length cap ∧ L.length ≤ cap ∧ cap ≤ maxLen ∧ (0 < L.length → ∃ p : Addr, a = some p ∧ p.block < w.heap.size ∧ ok p.block ∧ ∀ k (h : k < L.length), w.cell? (p.add k) = some (.int kd L[k])) := h
/-- A row of the call's own reads as its list. -/
theorem Lst.of_own {kd : IntKind} {w : World} {v : Value} {L : List Int} {base : Nat} {e : TypeId} (h : w.ownsRow base e 1 v L.length (L.map (Value.int kd))) : Lst kd w v L (fun g => base ≤ g) := by
  obtain ⟨h1, h2 | ⟨g, cap, cur, rfl, hb, hg, hn, hm, hs, ht⟩⟩ := h
  · obtain ⟨rfl, h0⟩ := h2
    have hL : L = [] := List.eq_nil_of_length_eq_zero h0
    subst hL
    exact Lst.nil kd w _
  · refine ⟨_, _, rfl, hn, hm, fun h0 => ⟨_, rfl, block_lt hg, hb, fun k hk => ?_⟩⟩
    rw [addr_add, Nat.zero_add, cell_of_row w g k cur e (0, 0) hg]
    have e1 : (cur.toList.take (L.length * 1))[k]? = cur.toList[k]? := by rw [List.getElem?_take, if_pos (by omega)]
    rw [ht] at e1
    rw [← Array.getElem?_toList, ← e1]
    simp [hk]
/-! ### Tests as the walk spells them -/
theorem beq_t {α : Type} [BEq α] [LawfulBEq α] {a b : α} (h : a = b) : (a == b) = true := by simp [h]
theorem beq_f {α : Type} [BEq α] [LawfulBEq α] {a b : α} (h : a ≠ b) : (a == b) = false := by simp [h]
theorem bne_t {α : Type} [BEq α] [LawfulBEq α] {a b : α} (h : a ≠ b) : (a != b) = true := by simp [h]
theorem bne_f {α : Type} [BEq α] [LawfulBEq α] {a b : α} (h : a = b) : (a != b) = false := by simp [h]
theorem dec_t {p : Prop} [Decidable p] (h : p) : decide p = true := by simp [h]
theorem dec_f {p : Prop} [Decidable p] (h : ¬ p) : decide p = false := by simp [h]
theorem map_snoc {kd : IntKind} (L : List Int) (x : Int) : L.map (Value.int kd) ++ [.int kd x] = (L ++ [x]).map (Value.int kd) := by simp
end Go.Proofs.Ytdhgcmodlikckaa
