/- Rows of groups: n groups of s cells each; a group is read, written in one cell, or stored whole. -/
import Derived.Test.YtelnembjcgkiaaaStorePart
namespace Go.Proofs.Ytelnembjcgkiaaa
open Go.RowKit
set_option linter.unusedVariables false
set_option linter.unusedSimpArgs false
section
variable {α : Type}
def grpL (f : Nat → List α) (n : Nat) : List α := (List.range n).flatMap f
def upd {β : Type} (f : Nat → β) (i : Nat) (v : β) : Nat → β := fun k => if k = i then v else f k
theorem upd_at {β : Type} (f : Nat → β) (i : Nat) (v : β) : upd f i v i = v := by simp [upd]
theorem upd_far {β : Type} (f : Nat → β) {i j : Nat} (v : β) (h : j ≠ i) : upd f i v j = f j := by simp [upd, h]
theorem grpL_succ (f : Nat → List α) (n : Nat) : grpL f (n + 1) = grpL f n ++ f n := by
  unfold grpL
  rw [List.range_succ, List.flatMap_append]
  simp
theorem grpL_congr {f g : Nat → List α} {n : Nat} (h : ∀ i, i < n → f i = g i) : grpL f n = grpL g n := by
  induction n with
  | zero => rfl
  | succ n ih => rw [grpL_succ, grpL_succ, ih (fun i hi => h i (by omega)), h n (by omega)]
theorem grpL_length {f : Nat → List α} {s : Nat} (n : Nat) (hs : ∀ i, (f i).length = s) : (grpL f n).length = n * s := by
  induction n with
  | zero => simp [grpL]
  | succ n ih => rw [grpL_succ, List.length_append, ih, hs, Nat.succ_mul]
theorem grpL_get {f : Nat → List α} {s : Nat} (n : Nat) (hs : ∀ i, (f i).length = s) {i j : Nat} (hi : i < n) (hj : j < s) : (grpL f n)[i * s + j]? = (f i)[j]? := by
  induction n with
  | zero => omega
  | succ n ih =>
    rw [grpL_succ]
    have hl := grpL_length n hs
    by_cases h : i < n
    · have : i * s + j < n * s := by
        have : (i + 1) * s ≤ n * s := Nat.mul_le_mul_right s h
        rw [Nat.succ_mul] at this
        omega
      rw [List.getElem?_append_left (by rw [hl]; exact this)]
      exact ih h
    · obtain rfl : i = n := by omega
      rw [List.getElem?_append_right (by rw [hl]; omega), hl, Nat.add_sub_cancel_left]
theorem grpL_set {f : Nat → List α} {s : Nat} (n : Nat) (hs : ∀ i, (f i).length = s) {i j : Nat} (v : α) (hi : i < n) (hj : j < s) : (grpL f n).set (i * s + j) v = grpL (upd f i ((f i).set j v)) n := by
  induction n with
  | zero => omega
  | succ n ih =>
    rw [grpL_succ, grpL_succ]
    have hl := grpL_length n hs
    by_cases h : i < n
    · have : i * s + j < n * s := by
        have : (i + 1) * s ≤ n * s := Nat.mul_le_mul_right s h
        rw [Nat.succ_mul] at this
        omega
      rw [List.set_append_left _ _ (by rw [hl]; exact this), ih h, upd_far _ _ (show n ≠ i by omega)]
    · obtain rfl : i = n := by omega
      rw [List.set_append_right _ _ (by rw [hl]; omega), hl, Nat.add_sub_cancel_left, upd_at]
      congr 1
      exact grpL_congr fun k hk => by rw [upd_far _ _ (show k ≠ i by omega)]
theorem grpL_part {f : Nat → List α} {s : Nat} (n : Nat) (hs : ∀ i, (f i).length = s) {i : Nat} (vs : List α) (hv : vs.length = s) (hi : i < n) : (grpL f n).take (i * s) ++ vs ++ (grpL f n).drop (i * s + vs.length) = grpL (upd f i vs) n := by
  induction n with
  | zero => omega
  | succ n ih =>
    rw [grpL_succ, grpL_succ]
    have hl := grpL_length n hs
    by_cases h : i < n
    · have : i * s + s ≤ n * s := by
        have : (i + 1) * s ≤ n * s := Nat.mul_le_mul_right s h
        rw [Nat.succ_mul] at this
        omega
      rw [List.take_append_of_le_length (by rw [hl]; omega), List.drop_append_of_le_length (by rw [hl, hv]; omega), upd_far _ _ (show n ≠ i by omega), ← ih h]
      simp
    · obtain rfl : i = n := by omega
      have e1 : (grpL f i ++ f i).take (i * s) = grpL f i := by rw [← hl]; simp
      have e2 : (grpL f i ++ f i).drop (i * s + vs.length) = [] := List.drop_eq_nil_of_le (by rw [List.length_append, hl, hs, hv]; omega)
      rw [e1, e2, upd_at, List.append_nil]
      congr 1
      exact grpL_congr fun k hk => by rw [upd_far _ _ (show k ≠ i by omega)]
end
end Go.Proofs.Ytelnembjcgkiaaa
