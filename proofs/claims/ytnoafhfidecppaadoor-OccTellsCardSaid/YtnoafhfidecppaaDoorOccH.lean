/- A slot taken, or not: any map is the document's. -/
import Derived.Test.YtnoafhfidecppaaDoorOccG
namespace Go.Proofs.YtnoafhfidecppaaDoor
open Go.RowKit
set_option linter.unusedVariables false
set_option linter.unusedSimpArgs false

theorem word_eq (f : Nat → Bool) (k : Nat) (n : Int) (h0 : 0 ≤ n) (h1 : n ≤ 18446744073709551615) (h : ∀ i, i < 64 → f (k * 64 + i) = bitI n i) : wordOf f k = n := by
  obtain ⟨m, rfl⟩ := Int.eq_ofNat_of_zero_le h0
  exact bs_eq _ 64 m (by omega) fun i hi => by rw [h i hi, bitI_nat]
theorem tOf_at (m : Map8) (k i : Nat) (hi : i < 64) : tOf m (k * 64 + i) = bitI (m.at (k : Nat)) i := by
  rw [tOf, show (k * 64 + i) / 64 = k by omega, show (k * 64 + i) % 64 = i by omega]
theorem word_tOf (m : Map8) (k : Nat) : wordOf (tOf m) k = m.at k := word_eq _ _ _ (m.at_range k).1 (m.at_range k).2 fun i hi => tOf_at m k i hi
theorem bitI_or (a b : Int) (i : Nat) (h0 : 0 ≤ a) (h1 : a ≤ 18446744073709551615) (k0 : 0 ≤ b) (k1 : b ≤ 18446744073709551615) : bitI (bits .or .u64 a b) i = (bitI a i || bitI b i) := by
  rw [u64_or a b h0 (by omega) k0 (by omega), bitI_nat, Nat.testBit_or, bitI_toNat h0, bitI_toNat k0]
theorem bitI_andNot (a b : Int) (i : Nat) (hi : i < 64) (h0 : 0 ≤ a) (h1 : a ≤ 18446744073709551615) (k0 : 0 ≤ b) (k1 : b ≤ 18446744073709551615) : bitI (bits .andNot .u64 a b) i = (bitI a i && !bitI b i) := by
  rw [u64_andNot a b h0 (by omega) k0 (by omega), bitI_nat, Nat.testBit_and, bitI_toNat h0, bitI_toNat k0]
  have := Nat.testBit_two_pow_sub_succ (n := 64) (x := b.toNat) (by omega) i
  rw [show 2 ^ 64 - (b.toNat + 1) = 18446744073709551615 - b.toNat by omega] at this
  rw [this]
  simp [hi]
theorem bitI_bit (l s : Int) (h : okS l s) (i : Nat) : bitI (bitO l s) i = decide (s.toNat = i) := by
  rw [bitO, if_pos h, show ((2 : Int) ^ s.toNat) = ((2 ^ s.toNat : Nat) : Int) by simp, bitI_nat, Nat.testBit_two_pow]
theorem put_word (m : Map8) (l s : Int) (v : Bool) (k : Nat) (hk : k < 8) : wordOf (putF (tOf m) l s v) k = (if v = true then setM m l s else dropM m l s).at k := by
  have hmr := (if v = true then setM m l s else dropM m l s).at_range k
  refine word_eq _ _ _ hmr.1 hmr.2 fun i hi => ?_
  by_cases h : okS l s
  · obtain ⟨a0, a1⟩ := m.at_range l
    obtain ⟨b0, b1⟩ := bitO_range l s
    have hat : (if v = true then setM m l s else dropM m l s).at k = if (k : Int) = l then (if v = true then bits .or .u64 (m.at l) (bitO l s) else bits .andNot .u64 (m.at l) (bitO l s)) else m.at k := by
      cases v
      · simp only [Bool.false_eq_true, if_false]
        rw [dropM, if_pos h]
        exact Map8.at_put m l _ _ _ k h.1 h.2.1 (by omega)
      · simp only [if_true]
        rw [setM, if_pos h]
        exact Map8.at_put m l _ _ _ k h.1 h.2.1 (by omega)
    rw [hat, putF]
    obtain ⟨h0, h1, h2, h3⟩ := h
    by_cases hkl : (k : Int) = l
    · rw [if_pos hkl]
      subst hkl
      by_cases hs : s.toNat = i
      · subst hs
        rw [if_pos ⟨⟨h0, h1, h2, h3⟩, by rw [Int.toNat_natCast]⟩]
        cases v
        · rw [if_neg (by simp), bitI_andNot _ _ _ hi a0 a1 b0 b1, bitI_bit _ _ ⟨h0, h1, h2, h3⟩]; simp
        · rw [if_pos rfl, bitI_or _ _ _ a0 a1 b0 b1, bitI_bit _ _ ⟨h0, h1, h2, h3⟩]; simp
      · rw [if_neg (fun h => hs (by have := h.2; rw [Int.toNat_natCast] at this; omega)), tOf_at m k i hi]
        cases v
        · rw [if_neg (by simp), bitI_andNot _ _ _ hi a0 a1 b0 b1, bitI_bit _ _ ⟨h0, h1, h2, h3⟩]; simp [hs]
        · rw [if_pos rfl, bitI_or _ _ _ a0 a1 b0 b1, bitI_bit _ _ ⟨h0, h1, h2, h3⟩]; simp [hs]
    · rw [if_neg hkl, if_neg (fun h => hkl (by have := h.2; omega)), tOf_at m k i hi]
  · have e : (if v = true then setM m l s else dropM m l s) = m := by
      cases v
      · simp only [Bool.false_eq_true, if_false]; rw [dropM, if_neg h]
      · simp only [if_true]; rw [setM, if_neg h]
    rw [e, putF, if_neg (fun h' => h h'.1), tOf_at m k i hi]
theorem ws_eq (m : Map8) : m.ws = (List.range 8).map fun k => m.at (k : Nat) := by
  refine list_of_places m.ws 8 _ m.len fun i hi => ?_
  have := m.len
  rw [Map8.at, Int.toNat_natCast, List.getD_eq_getElem?_getD, List.getElem?_eq_getElem (by omega)]; rfl
theorem put_words (m : Map8) (l s : Int) (v : Bool) : wl (putF (tOf m) l s v) = (if v = true then setM m l s else dropM m l s).ws := by
  rw [ws_eq, wl]
  refine List.map_congr_left fun k hk => put_word m l s v k (by simpa using hk)
theorem next_turn (m : Map8) (l s : Int) : rnextI (tOf m) l s = nextI m l s := by
  rw [rnextI, nextI]
  by_cases h : 0 ≤ l ∧ l < 8
  · rw [if_pos h, if_pos h, word_tOf, show ((l.toNat : Nat) : Int) = l by omega]
  · rw [if_neg h, if_neg h]
theorem has_turn (m : Map8) (l s : Int) (h : okS l s) : tOf m (l.toNat * 64 + s.toNat) = hasI m l s := by
  rw [hasI, decide_eq_true h, Bool.true_and]
  obtain ⟨h0, h1, h2, h3⟩ := h
  rw [tOf_at m _ _ (by omega), show ((l.toNat : Nat) : Int) = l by omega]
theorem ints_arr (m : Map8) : ints .u64 m.ws = m.arr := rfl
theorem eq_maps (a : Map8) (l : List Int) (h : l = a.ws) (w : World) : (binOp .eql 40 (.agg a.arr) (.agg (ints .u64 l))).run Tryd.prog w = .ok (.bool true) w := by
  subst h
  rw [ints_arr]
  have := eql_map a.ws a.ws a.len a.len w
  rw [beq_self_eq_true] at this
  exact this
end Go.Proofs.YtnoafhfidecppaaDoor
