/- The plain law of a register, bit by bit; the walk of RegTurns. -/
import Derived.Test.YtnoafhfidecppaaRegB
namespace Go.Proofs.Ytnoafhfidecppaa
open Go.RowKit
set_option linter.unusedVariables false
set_option linter.unusedSimpArgs false

theorem not_bits (b i : Nat) (hb : b < 4294967296) (hi : i < 32) : (4294967295 - b).testBit i = !b.testBit i := by
  have := Nat.testBit_two_pow_sub_succ (x := b) (n := 32) hb i
  rw [show 2 ^ 32 - (b + 1) = 4294967295 - b by omega] at this
  rw [this]
  simp [hi]
theorem lt_u32 {n : Int} (h0 : 0 ≤ n) (h1 : n ≤ 4294967295) : n.toNat < 2 ^ 32 := by omega
theorem nat_u32 {m : Nat} (h : m < 2 ^ 32) : 0 ≤ (m : Int) ∧ (m : Int) ≤ 4294967295 := by omega
theorem and_u32 (a b : Int) (h1 : 0 ≤ a) (h2 : a ≤ 4294967295) (h3 : 0 ≤ b) (h4 : b ≤ 4294967295) :
    0 ≤ bits .and .u32 a b ∧ bits .and .u32 a b ≤ 4294967295 ∧ ∀ i, i < 32 → bitI (bits .and .u32 a b) i = (bitI a i && bitI b i) := by
  rw [u32_and a b h1 (by omega) h3 (by omega)]
  obtain ⟨r0, r1⟩ := nat_u32 (Nat.and_lt_two_pow a.toNat (lt_u32 h3 h4))
  refine ⟨r0, r1, fun i hi => ?_⟩
  rw [bitI_nat, bitI_toNat h1, bitI_toNat h3, Nat.testBit_and]
theorem or_u32 (a b : Int) (h1 : 0 ≤ a) (h2 : a ≤ 4294967295) (h3 : 0 ≤ b) (h4 : b ≤ 4294967295) :
    0 ≤ bits .or .u32 a b ∧ bits .or .u32 a b ≤ 4294967295 ∧ ∀ i, i < 32 → bitI (bits .or .u32 a b) i = (bitI a i || bitI b i) := by
  rw [u32_or a b h1 (by omega) h3 (by omega)]
  obtain ⟨r0, r1⟩ := nat_u32 (Nat.or_lt_two_pow (lt_u32 h1 h2) (lt_u32 h3 h4))
  refine ⟨r0, r1, fun i hi => ?_⟩
  rw [bitI_nat, bitI_toNat h1, bitI_toNat h3, Nat.testBit_or]
theorem xor_u32 (a b : Int) (h1 : 0 ≤ a) (h2 : a ≤ 4294967295) (h3 : 0 ≤ b) (h4 : b ≤ 4294967295) :
    0 ≤ bits .xor .u32 a b ∧ bits .xor .u32 a b ≤ 4294967295 ∧ ∀ i, i < 32 → bitI (bits .xor .u32 a b) i = (bitI a i ^^ bitI b i) := by
  rw [u32_xor a b h1 (by omega) h3 (by omega)]
  obtain ⟨r0, r1⟩ := nat_u32 (Nat.xor_lt_two_pow (lt_u32 h1 h2) (lt_u32 h3 h4))
  refine ⟨r0, r1, fun i hi => ?_⟩
  rw [bitI_nat, bitI_toNat h1, bitI_toNat h3, Nat.testBit_xor]
theorem andNot_u32 (a b : Int) (h1 : 0 ≤ a) (h2 : a ≤ 4294967295) (h3 : 0 ≤ b) (h4 : b ≤ 4294967295) :
    0 ≤ bits .andNot .u32 a b ∧ bits .andNot .u32 a b ≤ 4294967295 ∧ ∀ i, i < 32 → bitI (bits .andNot .u32 a b) i = (bitI a i && !bitI b i) := by
  rw [u32_andNot a b h1 (by omega) h3 (by omega)]
  obtain ⟨r0, r1⟩ := nat_u32 (Nat.and_lt_two_pow a.toNat (show 4294967295 - b.toNat < 2 ^ 32 by omega))
  refine ⟨r0, r1, fun i hi => ?_⟩
  rw [bitI_nat, bitI_toNat h1, bitI_toNat h3, Nat.testBit_and, not_bits _ _ (by omega) hi]
/-- Two numbers of 32 bits are one if their bits are. -/
theorem bits_ext {a b : Int} (h1 : 0 ≤ a) (h2 : a ≤ 4294967295) (h3 : 0 ≤ b) (h4 : b ≤ 4294967295) (h : ∀ i, i < 32 → bitI a i = bitI b i) : a = b := by
  have e : a.toNat = b.toNat := by
    apply Nat.eq_of_testBit_eq
    intro i
    by_cases hi : i < 32
    · rw [← bitI_toNat h1, ← bitI_toNat h3, h i hi]
    · have hp : (2 : Nat) ^ 32 ≤ 2 ^ i := Nat.pow_le_pow_right (by decide) (by omega)
      rw [Nat.testBit_lt_two_pow (Nat.lt_of_lt_of_le (lt_u32 h1 h2) hp), Nat.testBit_lt_two_pow (Nat.lt_of_lt_of_le (lt_u32 h3 h4) hp)]
  omega
theorem bs_bits (f : Nat → Bool) : 0 ≤ bs f 32 ∧ bs f 32 ≤ 4294967295 ∧ ∀ i, i < 32 → bitI (bs f 32) i = f i := by
  obtain ⟨m, h1, h2, h3⟩ := bs_nat f 32
  obtain ⟨r0, r1⟩ := nat_u32 h2
  rw [h1]
  refine ⟨r0, r1, fun i hi => ?_⟩
  rw [bitI_nat, h3]
  simp [hi]
theorem zero_bits (i : Nat) : bitI 0 i = false := by simp [bitI]
theorem storeI_bits (a x c v : Int) (ha0 : 0 ≤ a) (ha1 : a ≤ 4294967295) (hx0 : 0 ≤ x) (hx1 : x ≤ 4294967295) (hc0 : 0 ≤ c) (hc1 : c ≤ 4294967295) (hv0 : 0 ≤ v) (hv1 : v ≤ 4294967295) :
    0 ≤ storeI a x c v ∧ storeI a x c v ≤ 4294967295 ∧ ∀ i, i < 32 → bitI (storeI a x c v) i = storeF a x c v i := by
  obtain ⟨p0, p1, p2⟩ := andNot_u32 a x ha0 ha1 hx0 hx1
  obtain ⟨q0, q1, q2⟩ := and_u32 v x hv0 hv1 hx0 hx1
  obtain ⟨s0, s1, s2⟩ := or_u32 _ _ p0 p1 q0 q1
  obtain ⟨t0, t1, t2⟩ := and_u32 v c hv0 hv1 hc0 hc1
  obtain ⟨u0, u1, u2⟩ := andNot_u32 _ _ s0 s1 t0 t1
  refine ⟨u0, u1, fun i hi => ?_⟩
  rw [storeI, u2 i hi, s2 i hi, p2 i hi, q2 i hi, t2 i hi, storeF]
  cases bitI a i <;> cases bitI x i <;> cases bitI c i <;> cases bitI v i <;> rfl
theorem storeI_eq (a x c v : Int) (ha0 : 0 ≤ a) (ha1 : a ≤ 4294967295) (hx0 : 0 ≤ x) (hx1 : x ≤ 4294967295) (hc0 : 0 ≤ c) (hc1 : c ≤ 4294967295) (hv0 : 0 ≤ v) (hv1 : v ≤ 4294967295) :
    storeI a x c v = bs (storeF a x c v) 32 := by
  obtain ⟨p0, p1, p2⟩ := storeI_bits a x c v ha0 ha1 hx0 hx1 hc0 hc1 hv0 hv1
  obtain ⟨q0, q1, q2⟩ := bs_bits (storeF a x c v)
  exact bits_ext p0 p1 q0 q1 fun i hi => by rw [p2 i hi, q2 i hi]
theorem raise_eq (a b : Int) (ha0 : 0 ≤ a) (ha1 : a ≤ 4294967295) (hb0 : 0 ≤ b) (hb1 : b ≤ 4294967295) : bits .or .u32 a b = bs (turnF a b 0) 32 := by
  obtain ⟨p0, p1, p2⟩ := or_u32 a b ha0 ha1 hb0 hb1
  obtain ⟨q0, q1, q2⟩ := bs_bits (turnF a b 0)
  exact bits_ext p0 p1 q0 q1 fun i hi => by rw [p2 i hi, q2 i hi, turnF, zero_bits]; simp
theorem fall_eq (a b : Int) (ha0 : 0 ≤ a) (ha1 : a ≤ 4294967295) (hb0 : 0 ≤ b) (hb1 : b ≤ 4294967295) : bits .andNot .u32 a b = bs (turnF a 0 b) 32 := by
  obtain ⟨p0, p1, p2⟩ := andNot_u32 a b ha0 ha1 hb0 hb1
  obtain ⟨q0, q1, q2⟩ := bs_bits (turnF a 0 b)
  exact bits_ext p0 p1 q0 q1 fun i hi => by rw [p2 i hi, q2 i hi, turnF, zero_bits]; simp
theorem only_eq (x c : Int) (ha0 : 0 ≤ x) (ha1 : x ≤ 4294967295) (hb0 : 0 ≤ c) (hb1 : c ≤ 4294967295) : (bits .or .u32 x c == 0) = ((x == 0) && (c == 0)) := by
  rw [u32_or x c ha0 (by omega) hb0 (by omega), Bool.eq_iff_iff]
  simp only [beq_iff_eq, Bool.and_eq_true]
  have : (((x.toNat ||| c.toNat : Nat) : Int) = 0) ↔ (x.toNat ||| c.toNat = 0) := by omega
  rw [this, Nat.or_eq_zero_iff]
  omega
set_option maxHeartbeats 8000000 in
set_option maxRecDepth 100000 in
theorem RegTurns_walk (a r x c v b : Int) (w : World) (ha0 : 0 ≤ a) (ha1 : a ≤ 4294967295) (hr0 : 0 ≤ r) (hr1 : r ≤ 4294967295) (hx0 : 0 ≤ x) (hx1 : x ≤ 4294967295) (hc0 : 0 ≤ c) (hc1 : c ≤ 4294967295) (hv0 : 0 ≤ v) (hv1 : v ≤ 4294967295) (hb0 : 0 ≤ b) (hb1 : b ≤ 4294967295) :
    Calls Try.prog 7 #[.agg #[.int .u32 a, .int .u32 r, .int .u32 x, .int .u32 c], .int .u32 v, .int .u32 b] w fun e w' => e = .returned (.bool true) ∧ Below w.heap.size w w' := by
  have e1 := storeI_eq a x c v ha0 ha1 hx0 hx1 hc0 hc1 hv0 hv1
  have e2 := raise_eq a b ha0 ha1 hb0 hb1
  have e3 := fall_eq a b ha0 ha1 hb0 hb1
  have e4 := only_eq x c hx0 hx1 hc0 hc1
  go_enter Try.func7, Try.ntmps7
  go_wp2_with fail
  refine wp_box2 ?_
  intro W hB hk1 hk2 _
  obtain ⟨h1, f1⟩ := Ext.cells hk1
  obtain ⟨h2, f2⟩ := Ext.cells hk2
  refine wp_start ?_
  intro y
  refine wp_region_ext _ (by kernel_rfl) (by kernel_rfl) ?_
  repeat (go_big_quiet_step (first | (go_at_call 19; refine Ext.call (known02 _)) | (go_at_call 18; refine Ext.call (store_any _ _ _ _ _ _)) | (go_at_call 21; refine Ext.call (store02_any _ _ _ _ _ _ ha0 ha1 hx0 hx1 hc0 hc1 hv0 hv1)) | (go_at_call 22; refine Ext.call (raise_any _ _ _ _ _ _)) | (go_at_call 24; refine Ext.call (fall_any _ _ _ _ _ _)) | (go_at_call 20; refine Ext.call (again_any _ _ _ _ _)) | (go_at_call 25; refine Ext.call (again02_any _ _ _ _ _)) | (go_at_call 26; refine Ext.call (only_any _ _ _ _ _)) | (go_at_call 27; refine Ext.call (only02_any _ _ _ _ _)) | (go_at_call 23; refine Ext.call (turn02_any _ _ _ _ _ _ _ (by omega) (by omega) (by omega) (by omega) (by omega) (by omega)))))
  refine wpQuiet_nil ?_
  rintro _ ⟨z, rfl⟩
  go_wp2_with fail
  go_ret
  exact ⟨rfl, below_then hB (Ext.ok _)⟩
end Go.Proofs.Ytnoafhfidecppaa
