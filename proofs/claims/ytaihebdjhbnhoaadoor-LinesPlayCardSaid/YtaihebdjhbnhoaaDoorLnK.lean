/- Whatever a controller is asked. -/
import Derived.Test.YtaihebdjhbnhoaaDoorLnJ
import Derived.Test.YtaihebdjhbnhoaaDoorArgs
namespace Go.Proofs.YtaihebdjhbnhoaaDoor
open Go.RowKit
set_option linter.unusedVariables false
set_option linter.unusedSimpArgs false
theorem list5 {α : Type} {l : List α} (h : l.length = 5) : ∃ a b c d e, l = [a, b, c, d, e] := by
  match l, h with
  | [a, b, c, d, e], _ => exact ⟨a, b, c, d, e, rfl⟩
theorem cell_spot {W : World} {a : Addr} {v : Value} (h : W.cell? a = some v) : a.spot = none := by
  unfold World.cell? at h
  cases hs : a.spot with
  | none => rfl
  | some x =>
    rw [hs] at h
    split at h <;> simp at h
theorem add_plain (b o i j : Nat) : (⟨b, o, none⟩ : Addr).add (i * 5 + j) = ⟨b, o + i * 5 + j, none⟩ := by
  unfold Addr.add
  split
  · rename_i h
    have h1 : i = 0 := by omega
    have h2 : j = 0 := by omega
    subst h1 h2
    rfl
  · rw [Nat.add_assoc]
def actSh : List Sh := [.int .i64, .int .i64, .bool, .int .u32, .int .u32]
set_option maxRecDepth 10000 in
/-- What one element of a slice of calls is. -/
theorem act_at {W : World} {a : Option Addr} {len cap : Nat} (h : Fit1 W (.slice actSh) (.slice a len cap)) {i : Nat} (hi : i < len) :
    ∃ (b o : Nat) (k n : Int) (t : Bool) (off v : Int), a = some ⟨b, o, none⟩ ∧ b < W.heap.size ∧ 0 ≤ off ∧ off ≤ 4294967295 ∧ 0 ≤ v ∧ v ≤ 4294967295 ∧
      W.cell? ⟨b, o + i * 5, none⟩ = some (.int .i64 k) ∧ W.cell? ⟨b, o + i * 5 + 1, none⟩ = some (.int .i64 n) ∧ W.cell? ⟨b, o + i * 5 + 2, none⟩ = some (.bool t) ∧ W.cell? ⟨b, o + i * 5 + 3, none⟩ = some (.int .u32 off) ∧ W.cell? ⟨b, o + i * 5 + 4, none⟩ = some (.int .u32 v) := by
  unfold Fit1 at h
  rcases h with h | ⟨a', len', cap', h1, -, -, h4⟩
  · simp only [Value.slice.injEq] at h
    omega
  · simp only [Value.slice.injEq] at h1
    obtain ⟨e1, e2, e3⟩ := h1
    subst e1
    rw [← e2] at h4
    clear e2 e3
    obtain ⟨cs, hc, hf⟩ := h4 i hi
    have hl := hf.length
    obtain ⟨c0, c1, c2, c3, c4, rfl⟩ := list5 hl
    simp only [actSh, Fits, Fit1, and_true] at hf
    obtain ⟨⟨k, rfl, hk⟩, ⟨n, rfl, hn⟩, ⟨t, rfl⟩, ⟨off, rfl, ho⟩, ⟨v, rfl, hv⟩⟩ := hf
    have q0 := hc 0 (by simp [actSh])
    have q1 := hc 1 (by simp [actSh])
    have q2 := hc 2 (by simp [actSh])
    have q3 := hc 3 (by simp [actSh])
    have q4 := hc 4 (by simp [actSh])
    obtain ⟨bb, oo, sp⟩ := a'
    have hsp : sp = none := by
      obtain ⟨cs0, hc0, hf0⟩ := h4 0 (by omega)
      have hl0 := hf0.length
      have z := hc0 0 (by show 0 < 5; omega)
      rw [List.getElem?_eq_getElem (by rw [hl0]; show 0 < 5; omega)] at z
      have z2 : (⟨bb, oo, sp⟩ : Addr).add (0 * actSh.length + 0) = ⟨bb, oo, sp⟩ := rfl
      rw [z2] at z
      exact cell_spot z
    subst hsp
    have e : ∀ j, (⟨bb, oo, none⟩ : Addr).add (i * actSh.length + j) = ⟨bb, oo + i * 5 + j, none⟩ := fun j => add_plain bb oo i j
    rw [e] at q0 q1 q2 q3 q4
    have hlt := World.block_lt_of_cell? W _ q0
    have ho' := bounds_u32 ho
    have hv' := bounds_u32 hv
    exact ⟨bb, oo, k, n, t, off, v, rfl, hlt, ho'.1, ho'.2, hv'.1, hv'.2, q0, q1, q2, q3, q4⟩

theorem lrow_zero : lrow 0 0 = lzero := by
  have e : bitI 0 = fun _ => false := by funext i; exact zero_bits i
  unfold lrow lzero ll
  rw [e]
theorem bit_of (t : Bool) : bitI (bitV t) 0 = t := by cases t <;> rfl
theorem put_one {h : Int} {k i : Nat} (hk : k < 32) (hi : i < 32) (t : Bool) : bitI (putI h (k : Int) 1 (bitV t)) i = if i = k then t else bitI h i := by
  have ok : okF (k : Int) 1 := ⟨by omega, by omega, by omega⟩
  rw [putI, if_pos ok, bs_bit _ _ _ hi, putF]
  by_cases e : i = k
  · subst e
    rw [if_pos (by simp [inF]), if_pos rfl, show i - (i : Int).toNat = 0 by omega, bit_of]
  · rw [if_neg (by simp [inF]; omega), if_neg e]
theorem row_bit (h m : Int) {k : Nat} (hk : k < 32) (t : Bool) : (lrow h m).setIfInBounds k (.bool t) = lrow (putI h (k : Int) 1 (bitV t)) m := by
  have e : (t32 (bitI h)).set k t = t32 (bitI (putI h (k : Int) 1 (bitV t))) := by
    refine list_of_places _ 32 _ (by rw [List.length_set, t32_len]) fun i hi => ?_
    rw [List.getElem?_set, put_one hk hi t]
    by_cases q : k = i
    · subst q; rw [if_pos rfl, if_pos (by rw [t32_len]; exact hk), if_pos rfl]
    · rw [if_neg q, t32_get _ hi, if_neg (fun h => q h.symm)]
  unfold lrow ll
  rw [bools_set, List.set_append_left _ _ (by rw [t32_len]; exact hk), e]
end Go.Proofs.YtaihebdjhbnhoaaDoor
