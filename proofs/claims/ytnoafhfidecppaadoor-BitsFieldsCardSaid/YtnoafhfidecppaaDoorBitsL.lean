/- Fields of a word: field, Field, Put, and the document's. -/
import Derived.Test.YtnoafhfidecppaaDoorBitsH
import Derived.Test.YtnoafhfidecppaaDoorBitsw
namespace Go.Proofs.YtnoafhfidecppaaDoor
open Go.RowKit
set_option linter.unusedVariables false
set_option linter.unusedSimpArgs false

def okF (low width : Int) : Prop := 0 ≤ low ∧ low < 32 ∧ 1 ≤ width
instance (low width : Int) : Decidable (okF low width) := inferInstanceAs (Decidable (_ ∧ _ ∧ _))
def inF (low width : Int) (i : Nat) : Bool := decide (low ≤ i) && decide ((i : Int) - low < width)
def fmask (low width : Int) : Int := if okF low width then bs (inF low width) 32 else 0
def fcount (low width : Int) : Nat := min width.toNat (32 - low.toNat)
def fieldI (n low width : Int) : Int := if okF low width then bs (fun j => bitI n (low.toNat + j)) (fcount low width) else 0
def putF (n low width v : Int) (i : Nat) : Bool := if inF low width i = true then bitI v (i - low.toNat) else bitI n i
def putI (n low width v : Int) : Int := if okF low width then bs (putF n low width v) 32 else n

theorem mask_range (n : Int) : 0 ≤ maskI n ∧ maskI n ≤ 18446744073709551615 := by
  by_cases h : n < 64
  · obtain ⟨h1, h2⟩ := mask_nat n h
    omega
  · rw [maskI, if_pos (by omega)]; omega
theorem mul_bits (v l i : Nat) (hi : i < 32) : (v * 2 ^ l % 2 ^ 32).testBit i = (decide (l ≤ i) && v.testBit (i - l)) := by
  rw [Nat.testBit_mod_two_pow, Nat.testBit_mul_two_pow]
  simp [hi]
theorem shl_u32 (v l : Nat) : IntKind.u32.wrap ((v : Int) * 2 ^ l) = ((v * 2 ^ l % 2 ^ 32 : Nat) : Int) := by
  rw [IntKind.wrap_u32]
  simp
theorem shl_bits (v : Int) (l i : Nat) (h0 : 0 ≤ v) (hi : i < 32) : bitI (IntKind.u32.wrap (v * 2 ^ l)) i = (decide (l ≤ i) && bitI v (i - l)) := by
  obtain ⟨V, rfl⟩ := Int.eq_ofNat_of_zero_le h0
  have e := shl_u32 V l
  rw [e, bitI_nat, bitI_nat, mul_bits V l i hi]
theorem shl_range (v : Int) (l : Nat) : 0 ≤ IntKind.u32.wrap (v * 2 ^ l) ∧ IntKind.u32.wrap (v * 2 ^ l) ≤ 4294967295 := by
  rw [IntKind.wrap_u32]; omega
theorem fmask_eq (k l : Nat) (hk : k ≤ 32) (hl : l < 32) (low width : Int) (hlow : low = l) (hw : width = k ∨ (k = 32 ∧ 32 ≤ width)) (hk1 : 1 ≤ k) :
    IntKind.u32.wrap (IntKind.u64.wrap ((2 ^ k - 1) * 2 ^ l)) = fmask low width := by
  have hp : ((2 ^ k - 1 : Nat) : Int) = 2 ^ k - 1 := by
    have := Nat.one_le_two_pow (n := k)
    push_cast [this]
    rfl
  have e1 : IntKind.u32.wrap (IntKind.u64.wrap (((2 : Int) ^ k - 1) * 2 ^ l)) = IntKind.u32.wrap (((2 : Int) ^ k - 1) * 2 ^ l) := by
    rw [IntKind.wrap_u64, IntKind.wrap_u32, IntKind.wrap_u32]; omega
  rw [e1, ← hp, shl_u32, fmask, if_pos ⟨by omega, by omega, by omega⟩]
  symm
  apply bs_eq _ _ _ (Nat.mod_lt _ (by decide))
  intro i hi
  rw [mul_bits _ _ _ hi, Nat.testBit_two_pow_sub_one, inF, hlow]
  have a1 : decide ((l : Int) ≤ (i : Int)) = decide (l ≤ i) := by rw [decide_eq_decide]; omega
  by_cases h : l ≤ i
  · have a2 : decide ((i : Int) - (l : Int) < width) = decide (i - l < k) := by rw [decide_eq_decide]; omega
    rw [a1, a2]
  · rw [a1]; simp [h]
theorem fmask_range (low width : Int) : 0 ≤ fmask low width ∧ fmask low width ≤ 4294967295 := by
  rw [fmask]
  split
  · obtain ⟨h1, h2, _⟩ := bs_bits (inF low width)
    exact ⟨h1, h2⟩
  · decide
theorem fmask_bits {low width : Int} (h : okF low width) (i : Nat) (hi : i < 32) : bitI (fmask low width) i = inF low width i := by
  rw [fmask, if_pos h]
  exact (bs_bits _).2.2 i hi
theorem fmask_none {low width : Int} (h : ¬ okF low width) : (fmask low width == 0) = true := by rw [fmask, if_neg h]; rfl
theorem fmask_some {low width : Int} (h : okF low width) : (fmask low width == 0) = false := by
  have h1 := fmask_bits h low.toNat (by have := h.1; have := h.2.1; omega)
  have h2 : inF low width low.toNat = true := by
    have := h.1; have := h.2.2
    simp only [inF, Bool.and_eq_true, decide_eq_true_eq]
    omega
  rw [h2] at h1
  apply Bool.eq_false_iff.2
  intro h3
  have h4 : fmask low width = 0 := by simpa using h3
  rw [h4] at h1
  simp [bitI] at h1
theorem field_plain {n low width : Int} (h : okF low width) (n0 : 0 ≤ n) (n1 : n ≤ 4294967295) : bits .and .u32 n (fmask low width) / 2 ^ low.toNat = fieldI n low width := by
  obtain ⟨m0, m1⟩ := fmask_range low width
  obtain ⟨a0, a1, a2⟩ := and_u32 n (fmask low width) n0 n1 m0 m1
  obtain ⟨x, hx⟩ := Int.eq_ofNat_of_zero_le a0
  obtain ⟨g0, g1, g2⟩ := h
  have hz : ∀ i, 32 ≤ i → x.testBit i = false := fun i hi => Nat.testBit_lt_two_pow (Nat.lt_of_lt_of_le (show x < 2 ^ 32 by rw [hx] at a1; omega) (Nat.pow_le_pow_right (by decide) hi))
  have hb : ∀ i, i < 32 → x.testBit i = (bitI n i && inF low width i) := fun i hi => by
    have := a2 i hi
    rw [hx, bitI_nat, fmask_bits ⟨g0, g1, g2⟩ i hi] at this
    exact this
  have hd : ∀ j, (x / 2 ^ low.toNat).testBit j = x.testBit (low.toNat + j) := fun j => by rw [Nat.testBit_div_two_pow, Nat.add_comm]
  rw [hx, fieldI, if_pos ⟨g0, g1, g2⟩]
  have e : ((x : Int) / 2 ^ low.toNat : Int) = ((x / 2 ^ low.toNat : Nat) : Int) := by simp
  rw [e]
  symm
  apply bs_eq
  · apply Nat.lt_pow_two_of_testBit
    intro i hi
    rw [hd]
    by_cases hl : low.toNat + i < 32
    · rw [hb _ hl]
      have : inF low width (low.toNat + i) = false := by
        unfold fcount at hi
        simp only [inF, Bool.and_eq_false_iff, decide_eq_false_iff_not]
        omega
      rw [this, Bool.and_false]
    · exact hz _ (by omega)
  · intro i hi
    unfold fcount at hi
    rw [hd, hb _ (by omega)]
    have : inF low width (low.toNat + i) = true := by
      simp only [inF, Bool.and_eq_true, decide_eq_true_eq]
      omega
    rw [this, Bool.and_true]
theorem put_plain {n low width v : Int} (h : okF low width) (n0 : 0 ≤ n) (n1 : n ≤ 4294967295) (v0 : 0 ≤ v) :
    bits .or .u32 (bits .andNot .u32 n (fmask low width)) (bits .and .u32 (IntKind.u32.wrap (v * 2 ^ low.toNat)) (fmask low width)) = putI n low width v := by
  obtain ⟨m0, m1⟩ := fmask_range low width
  obtain ⟨s0, s1⟩ := shl_range v low.toNat
  obtain ⟨a0, a1, a2⟩ := andNot_u32 n (fmask low width) n0 n1 m0 m1
  obtain ⟨b0, b1, b2⟩ := and_u32 _ (fmask low width) s0 s1 m0 m1
  obtain ⟨c0, c1, c2⟩ := or_u32 _ _ a0 a1 b0 b1
  obtain ⟨p0, p1, p2⟩ := bs_bits (putF n low width v)
  rw [putI, if_pos h]
  refine bits_ext c0 c1 p0 p1 fun i hi => ?_
  rw [c2 i hi, a2 i hi, b2 i hi, p2 i hi, fmask_bits h i hi, shl_bits v _ i v0 hi, putF]
  by_cases hin : inF low width i = true
  · have hl : decide (low.toNat ≤ i) = true := by
      simp only [inF, Bool.and_eq_true, decide_eq_true_eq] at hin ⊢
      omega
    have hl2 : low ≤ (i : Int) := by have := h.1; simp at hl; omega
    simp [hin, hl2]
  · simp [hin]
theorem put_range {n low width v : Int} (n0 : 0 ≤ n) (n1 : n ≤ 4294967295) : 0 ≤ putI n low width v ∧ putI n low width v ≤ 4294967295 := by
  rw [putI]
  split
  · obtain ⟨h1, h2, _⟩ := bs_bits (putF n low width v)
    exact ⟨h1, h2⟩
  · exact ⟨n0, n1⟩
theorem bs_bit (f : Nat → Bool) (k i : Nat) (hi : i < k) : bitI (bs f k) i = f i := by
  obtain ⟨m, h1, h2, h3⟩ := bs_nat f k
  rw [h1, bitI_nat, h3]
  simp [hi]
theorem field_range {n low width : Int} : 0 ≤ fieldI n low width ∧ fieldI n low width ≤ 4294967295 := by
  rw [fieldI]
  split
  · obtain ⟨h1, h2⟩ := bs_range (fun j => bitI n (low.toNat + j)) (fcount low width)
    have h3 := Nat.pow_le_pow_right (n := 2) (by decide) (show fcount low width ≤ 32 by unfold fcount; omega)
    have h4 : ((2 ^ fcount low width : Nat) : Int) = 2 ^ fcount low width := by simp
    omega
  · decide
theorem put_back {n low width v : Int} (n0 : 0 ≤ n) (n1 : n ≤ 4294967295) : putI (putI n low width v) low width (fieldI n low width) = n := by
  by_cases h : okF low width
  · rw [putI, if_pos h]
    obtain ⟨p0, p1, p2⟩ := bs_bits (putF (putI n low width v) low width (fieldI n low width))
    refine bits_ext p0 p1 n0 n1 fun i hi => ?_
    rw [p2 i hi, putF]
    by_cases hin : inF low width i = true
    · rw [if_pos hin, fieldI, if_pos h]
      simp only [inF, Bool.and_eq_true, decide_eq_true_eq] at hin
      have := h.1
      rw [bs_bit _ _ _ (by unfold fcount; omega), show low.toNat + (i - low.toNat) = i by omega]
    · rw [if_neg hin, putI, if_pos h, (bs_bits _).2.2 i hi, putF, if_neg hin]
  · rw [putI, if_neg h, putI, if_neg h]

set_option maxHeartbeats 4000000 in
set_option maxRecDepth 100000 in
theorem field_any (low width : Int) (w : World) (l0 : -9223372036854775808 ≤ low) (l1 : low ≤ 9223372036854775807) (w0 : -9223372036854775808 ≤ width) (w1 : width ≤ 9223372036854775807) :
    Calls Tryd.prog 54 #[.int .i64 low, .int .i64 width] w fun e w' => e = .returned (.int .u32 (fmask low width)) ∧ Below w.heap.size w w' := by
  by_cases h : low < 0
  · have g1 : decide (low < 0) = true := by simpa using h
    have e1 : 0 = fmask low width := by rw [fmask, if_neg (by unfold okF; omega)]
    have E1 := Lib.hid e1
    clear e1
    go_enter Tryd.func54, Tryd.ntmps54
    go_wp2
    go_ret
    exact ⟨ret_int E1.out, Below.refl _ _⟩
  by_cases h : 32 ≤ low
  · have g1 : decide (low < 0) = false := by simp; omega
    have g2 : decide (32 ≤ low) = true := by simpa using h
    have e1 : 0 = fmask low width := by rw [fmask, if_neg (by unfold okF; omega)]
    have E1 := Lib.hid e1
    clear e1
    go_enter Tryd.func54, Tryd.ntmps54
    go_wp2
    go_ret
    exact ⟨ret_int E1.out, Below.refl _ _⟩
  by_cases h : width < 1
  · have g1 : decide (low < 0) = false := by simp; omega
    have g2 : decide (32 ≤ low) = false := by simp; omega
    have g3 : decide (width < 1) = true := by simpa using h
    have e1 : 0 = fmask low width := by rw [fmask, if_neg (by unfold okF; omega)]
    have E1 := Lib.hid e1
    clear e1
    go_enter Tryd.func54, Tryd.ntmps54
    go_wp2
    go_ret
    exact ⟨ret_int E1.out, Below.refl _ _⟩
  have g1 : decide (low < 0) = false := by simp; omega
  have g2 : decide (32 ≤ low) = false := by simp; omega
  have g3 : decide (width < 1) = false := by simp; omega
  by_cases hw : width ≤ 32
  · have e1 := fmask_eq width.toNat low.toNat (by omega) (by omega) low width (by omega) (by omega) (by omega)
    have em : maskI width = 2 ^ width.toNat - 1 := by rw [maskI, if_neg (by omega)]
    rw [← em] at e1
    have E1 := Lib.hid e1
    clear e1 em
    obtain ⟨c0, c1⟩ := mask_range width
    go_enter Tryd.func54, Tryd.ntmps54
    refine wp_start ?_
    intro x
    go_wp2_with (first | (go_at_call 34; refine (mask_any _ _).mono ?_; rintro e wr ⟨rfl, hbr⟩; obtain ⟨y, rfl⟩ := Ext.step _ hbr; clear hbr))
    go_ret
    exact ⟨ret_int E1.out, Ext.ok _⟩
  · have e1 := fmask_eq 32 low.toNat (by omega) (by omega) low width (by omega) (by omega) (by omega)
    have em : maskI 32 = 2 ^ 32 - 1 := by rw [maskI, if_neg (by omega)]; rfl
    rw [← em] at e1
    have E1 := Lib.hid e1
    clear e1 em
    obtain ⟨c0, c1⟩ := mask_range 32
    go_enter Tryd.func54, Tryd.ntmps54
    refine wp_start ?_
    intro x
    go_wp2_with (first | (go_at_call 34; refine (mask_any _ _).mono ?_; rintro e wr ⟨rfl, hbr⟩; obtain ⟨y, rfl⟩ := Ext.step _ hbr; clear hbr))
    go_ret
    exact ⟨ret_int E1.out, Ext.ok _⟩
set_option maxHeartbeats 4000000 in
set_option maxRecDepth 100000 in
theorem Field_any (n low width : Int) (w : World) (n0 : 0 ≤ n) (n1 : n ≤ 4294967295) (l0 : -9223372036854775808 ≤ low) (l1 : low ≤ 9223372036854775807) (w0 : -9223372036854775808 ≤ width) (w1 : width ≤ 9223372036854775807) :
    Calls Tryd.prog 21 #[.int .u32 n, .int .i64 low, .int .i64 width] w fun e w' => e = .returned (.int .u32 (fieldI n low width)) ∧ Below w.heap.size w w' := by
  by_cases h : okF low width
  · have g := fmask_some h
    have e1 := field_plain h n0 n1
    have E1 := Lib.hid e1
    have em : min low.toNat 32 = low.toNat := by have := h.2.1; omega
    have g0 := h.1
    clear e1 h
    go_enter Tryd.func21, Tryd.ntmps21
    refine wp_start ?_
    intro x
    go_wp2_with (first | (go_at_call 54; refine (field_any _ _ _ l0 l1 w0 w1).mono ?_; rintro e wr ⟨rfl, hbr⟩; obtain ⟨y, rfl⟩ := Ext.step _ hbr; clear hbr))
    go_ret
    exact ⟨ret_int (E1.out), Ext.ok _⟩
  · have g := fmask_none h
    have e1 : 0 = fieldI n low width := by rw [fieldI, if_neg h]
    have E1 := Lib.hid e1
    clear e1
    clear h
    go_enter Tryd.func21, Tryd.ntmps21
    refine wp_start ?_
    intro x
    go_wp2_with (first | (go_at_call 54; refine (field_any _ _ _ l0 l1 w0 w1).mono ?_; rintro e wr ⟨rfl, hbr⟩; obtain ⟨y, rfl⟩ := Ext.step _ hbr; clear hbr))
    go_ret
    exact ⟨ret_int E1.out, Ext.ok _⟩
set_option maxHeartbeats 4000000 in
set_option maxRecDepth 100000 in
theorem Put_any (n low width v : Int) (w : World) (n0 : 0 ≤ n) (n1 : n ≤ 4294967295) (v0 : 0 ≤ v) (v1 : v ≤ 4294967295) (l0 : -9223372036854775808 ≤ low) (l1 : low ≤ 9223372036854775807) (w0 : -9223372036854775808 ≤ width) (w1 : width ≤ 9223372036854775807) :
    Calls Tryd.prog 18 #[.int .u32 n, .int .i64 low, .int .i64 width, .int .u32 v] w fun e w' => e = .returned (.int .u32 (putI n low width v)) ∧ Below w.heap.size w w' := by
  by_cases h : okF low width
  · have g := fmask_some h
    have e1 := put_plain h n0 n1 v0
    have E1 := Lib.hid e1
    have em : min low.toNat 32 = low.toNat := by have := h.2.1; omega
    have g0 := h.1
    clear e1 h
    go_enter Tryd.func18, Tryd.ntmps18
    refine wp_start ?_
    intro x
    go_wp2_with (first | (go_at_call 54; refine (field_any _ _ _ l0 l1 w0 w1).mono ?_; rintro e wr ⟨rfl, hbr⟩; obtain ⟨y, rfl⟩ := Ext.step _ hbr; clear hbr))
    go_ret
    exact ⟨ret_int (by rw [← IntKind.wrap_u32]; exact E1.out), Ext.ok _⟩
  · have g := fmask_none h
    have e1 : n = putI n low width v := by rw [putI, if_neg h]
    have E1 := Lib.hid e1
    clear e1
    clear h
    go_enter Tryd.func18, Tryd.ntmps18
    refine wp_start ?_
    intro x
    go_wp2_with (first | (go_at_call 54; refine (field_any _ _ _ l0 l1 w0 w1).mono ?_; rintro e wr ⟨rfl, hbr⟩; obtain ⟨y, rfl⟩ := Ext.step _ hbr; clear hbr))
    go_ret
    exact ⟨ret_int E1.out, Ext.ok _⟩
end Go.Proofs.YtnoafhfidecppaaDoor
