/- Slices of whatever elements in memory, read cell by cell. -/
import Derived.Test.YtdhgcmodlikckaaGrow
namespace Go.Proofs.Ytdhgcmodlikckaa
open Go.RowKit
set_option linter.unusedVariables false
set_option linter.unusedSimpArgs false
/-- A slice of n elements whose cells read as cs; what is known of its block's number. -/
def Sl (w : World) (v : Value) (n : Nat) (cs : List Value) (ok : Nat → Prop) : Prop :=
  ∃ a cap, v = .slice a n cap ∧ n ≤ cap ∧ cap ≤ maxLen ∧ (0 < n → ∃ g, a = some ⟨g, 0, none⟩ ∧ g < w.heap.size ∧ ok g ∧ ∀ (k : Nat) (u : Value), cs[k]? = some u → w.cell? ⟨g, k, none⟩ = some u)
theorem Sl.mono {w : World} {v : Value} {n : Nat} {cs : List Value} {ok ok' : Nat → Prop} (h : Sl w v n cs ok) (hk : ∀ g, ok g → ok' g) : Sl w v n cs ok' := by
  obtain ⟨a, cap, h1, h2, h3, h4⟩ := h
  exact ⟨a, cap, h1, h2, h3, fun h0 => by obtain ⟨g, q1, q2, q3, q4⟩ := h4 h0; exact ⟨g, q1, q2, hk _ q3, q4⟩⟩
theorem Sl.below {w w' : World} {v : Value} {n : Nat} {cs : List Value} {ok : Nat → Prop} {B : Nat} (h : Sl w v n cs ok) (hb : Below B w w') (hok : ∀ g, g < w.heap.size → ok g → g < B) : Sl w' v n cs ok := by
  obtain ⟨a, cap, h1, h2, h3, h4⟩ := h
  exact ⟨a, cap, h1, h2, h3, fun h0 => by obtain ⟨g, q1, q2, q3, q4⟩ := h4 h0; exact ⟨g, q1, Nat.lt_of_lt_of_le q2 hb.size, q3, fun k u hu => (hb.cell (p := ⟨g, k, none⟩) (hok _ q2 q3)).trans (q4 k u hu)⟩⟩
theorem Sl.ext {w w' : World} {v : Value} {n : Nat} {cs : List Value} {ok : Nat → Prop} (h : Sl w v n cs ok) (hb : Below w.heap.size w w') : Sl w' v n cs ok := h.below hb fun _ h _ => h
theorem Sl.but {w w' : World} {v : Value} {n : Nat} {cs : List Value} {ok : Nat → Prop} {b : Nat} (h : Sl w v n cs ok) (hb : But b w w') (hok : ∀ g, ok g → g ≠ b) : Sl w' v n cs ok := by
  obtain ⟨a, cap, h1, h2, h3, h4⟩ := h
  exact ⟨a, cap, h1, h2, h3, fun h0 => by
    obtain ⟨g, q1, q2, q3, q4⟩ := h4 h0
    exact ⟨g, q1, Nat.lt_of_lt_of_le q2 hb.size, q3, fun k u hu => (World.cell?_of_block (hb.block g q2 (hok _ q3))).trans (q4 k u hu)⟩⟩
theorem Sl.nil (w : World) (ok : Nat → Prop) : Sl w (.slice none 0 0) 0 [] ok := ⟨none, 0, rfl, by simp, by unfold maxLen; omega, fun h => by simp at h⟩
theorem Sl.of_own {w : World} {v : Value} {n sz base : Nat} {xs : List Value} {e : TypeId} (h : w.ownsRow base e sz v n xs) : Sl w v n xs (fun g => base ≤ g) := by
  obtain ⟨h1, h2 | ⟨g, cap, cur, rfl, hb, hg, hn, hm, hs, ht⟩⟩ := h
  · obtain ⟨rfl, h0⟩ := h2
    subst h0
    exact ⟨none, 0, rfl, by omega, by unfold maxLen; omega, fun h => by omega⟩
  · refine ⟨_, _, rfl, hn, hm, fun h0 => ⟨g, rfl, block_lt hg, hb, fun k u hu => ?_⟩⟩
    rw [cell_of_row w g k cur e (0, 0) hg, ← Array.getElem?_toList]
    rw [← ht, List.getElem?_take] at hu
    split at hu
    · exact hu
    · cases hu
theorem ownsRow_far {w : World} {v : Value} {n sz base g : Nat} {xs : List Value} {e : TypeId} (h : w.ownsRow base e sz v n xs) (hg : g < base) : some g ≠ v.ownBlock := by
  rcases h.2 with ⟨rfl, _⟩ | ⟨g', _, _, rfl, hge, _⟩
  · simp [Value.ownBlock]
  · simp [Value.ownBlock]; omega
end Go.Proofs.Ytdhgcmodlikckaa
