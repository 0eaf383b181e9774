/- The document's pool: one place of a row of places is written anew. -/
import Derived.Test.YtelnembjcgkiaaaDoorPoZa
import Derived.Test.YtelnembjcgkiaaaDoorStorePart
namespace Go.Proofs.YtelnembjcgkiaaaDoor
open Go.RowKit
set_option linter.unusedVariables false
set_option linter.unusedSimpArgs false

theorem f5_len (p : Pt) : (f5 p).length = 5 := rfl
theorem fl5_splice {L : List Pt} {i : Nat} (hi : i < L.length) (p' : Pt) (c : Nat) (vs Z : List Value) (hc : c + vs.length ≤ 5) (h : (f5 L[i]).take c ++ vs ++ (f5 L[i]).drop (c + vs.length) = f5 p') :
    (fl5 L ++ Z).take (i * 5 + c) ++ vs ++ (fl5 L ++ Z).drop (i * 5 + c + vs.length) = fl5 (L.set i p') ++ Z := by
  induction L generalizing i with
  | nil => simp at hi
  | cons q r ih =>
    have hq : ∀ s : List Pt, ∀ p : Pt, fl5 (p :: s) = f5 p ++ fl5 s := fun _ _ => rfl
    cases i with
    | zero =>
      rw [List.set_cons_zero, hq, hq, Nat.zero_mul, Nat.zero_add, List.append_assoc, List.append_assoc, List.take_append_of_le_length (by rw [f5_len]; omega), List.drop_append_of_le_length (by rw [f5_len]; omega), ← List.append_assoc, ← List.append_assoc]
      rw [show (f5 q).take c ++ vs ++ (f5 q).drop (c + vs.length) = f5 p' from h]
      rw [List.append_assoc]
    | succ i =>
      have e1 : (i + 1) * 5 + c = (f5 q).length + (i * 5 + c) := by rw [f5_len]; omega
      have e2 : (i + 1) * 5 + c + vs.length = (f5 q).length + (i * 5 + c + vs.length) := by rw [f5_len]; omega
      rw [List.set_cons_succ, hq, hq, List.append_assoc, List.append_assoc, e1, List.take_length_add_append, ← e1, e2, List.drop_length_add_append, List.append_assoc, List.append_assoc]
      congr 1
      have := ih (i := i) (by simpa using hi) (by simpa using h)
      rw [List.append_assoc] at this
      exact this
/-- A row of places of the call's own. -/
theorem own_row5 {w : World} {base : Nat} {u : Value} {n : Nat} {L : List Pt} (h : w.ownsRow base 58 5 u n (fl5 L)) (hn : 0 < n) : ∃ g cap Z, u = .slice (some ⟨g, 0, none⟩) n cap ∧ base ≤ g ∧ n ≤ cap ∧ cap ≤ maxLen ∧ RowAt w g (fl5 L ++ Z).toArray 58 := by
  rcases h.2 with ⟨_, h0⟩ | ⟨g, cap, cur, rfl, hb, hg, hn, hm, hs, ht⟩
  · omega
  · refine ⟨g, cap, cur.toList.drop (n * 5), rfl, hb, hn, hm, ?_⟩
    rw [← ht, List.take_append_drop]
    exact hg
theorem row_sl {w : World} {g n cap : Nat} {L : List Pt} {Z : List Value} {ok : Nat → Prop} (h : RowAt w g (fl5 L ++ Z).toArray 58) (hn : n ≤ cap) (hm : cap ≤ maxLen) (hl : L.length = n) (hok : ok g) : Sl w (.slice (some ⟨g, 0, none⟩) n cap) L.length (fl5 L) ok := by
  subst hl
  refine ⟨_, _, rfl, hn, hm, fun h0 => ⟨g, rfl, h.lt, hok, fun k v hv => h.cell ?_⟩⟩
  rw [List.getElem?_toArray, List.getElem?_append_left (List.getElem?_eq_some_iff.1 hv).1]
  exact hv
theorem own_empty5 (w : World) (e : TypeId) (sz : Nat) {base : Nat} (hb : base ≤ w.heap.size) : (w.alloc (.cells #[] e)).ownsRow base e sz (.slice (some ⟨w.heap.size, 0, none⟩) 0 0) 0 [] :=
  ⟨by simp, .inr ⟨w.heap.size, 0, #[], rfl, hb, heap_alloc_new w _, Nat.le_refl _, by unfold maxLen; omega, by simp, by simp⟩⟩
theorem slice_eq5 {L : List Pt} {v : Value} {n : Nat} {ok : Nat → Prop} {w : World} (hv : Sl w v n (fl5 L) ok) : ∃ b c, v = .slice b n c ∧ (0 < n → ∃ p : Addr, b = some p ∧ ∀ (k : Nat) (y : Value), (fl5 L)[k]? = some y → w.cell? (p.add k) = some y) := by
  obtain ⟨a, c, rfl, -, -, h⟩ := hv
  refine ⟨a, c, rfl, fun h0 => ?_⟩
  obtain ⟨g, q1, q2, q3, q4⟩ := h h0
  refine ⟨_, q1, fun k y hk => ?_⟩
  rw [addr_add, Nat.zero_add]
  exact q4 k y hk
/-- What Set makes of a place. -/
def setPt (p : Pt) (e : Int × Int × Int) : Pt := (p.1, p.2.1, e)
def dropPt (p : Pt) : Pt := (p.1 + 1, false, 0, 0, 0)
def takePt (p : Pt) (e : Int × Int × Int) : Pt := (p.1, true, e)
end Go.Proofs.YtelnembjcgkiaaaDoor
