/- Texts of the lower layers, as this seat has them (only_seat.py). -/
import Derived.Test.YtelnembjcgkiaaaDoorProg
import Derived.Test.YtelnembjcgkiaaaDoorW0
import Derived.Deep.LoopGhost
import Derived.Lib.TrailingZeros
namespace Go.Proofs.YtelnembjcgkiaaaDoor
open Go.RowKit
set_option linter.unusedVariables false
set_option linter.unusedSimpArgs false

theorem Tryd.infoU64 : (Tryd.prog.info? 23).map (·.size) = some 1 := by kernel_rfl
def dgs (n : Int) : Array Value := #[.int .u64 (n % 64), .int .u64 (n / 64 % 64), .int .u64 (n / 4096 % 64), .int .u64 (n / 262144 % 64), .int .u64 (n / 16777216 % 64), .int .u64 (n / 1073741824 % 64), .int .u64 (n / 68719476736 % 64), .int .u64 (n / 4398046511104 % 64), .int .u64 (n / 281474976710656)]
def dgl (n : Int) : List Int := [n % 64, n / 64 % 64, n / 4096 % 64, n / 262144 % 64, n / 16777216 % 64, n / 1073741824 % 64, n / 68719476736 % 64, n / 4398046511104 % 64, n / 281474976710656]
theorem dgs_eq (n : Int) : dgs n = ((dgl n).map (Value.int .u64)).toArray := rfl
def topI (a b : Int) : Int := if dgl a == dgl b then -1 else if a / 281474976710656 != b / 281474976710656 then 8 else if a / 4398046511104 % 64 != b / 4398046511104 % 64 then 7 else if a / 68719476736 % 64 != b / 68719476736 % 64 then 6 else if a / 1073741824 % 64 != b / 1073741824 % 64 then 5 else if a / 16777216 % 64 != b / 16777216 % 64 then 4 else if a / 262144 % 64 != b / 262144 % 64 then 3 else if a / 4096 % 64 != b / 4096 % 64 then 2 else if a / 64 % 64 != b / 64 % 64 then 1 else 0
def digitI (n l : Int) : Int := if l < 0 then 0 else if l = 0 then n % 64 else if l = 1 then n / 64 % 64 else if l = 2 then n / 4096 % 64 else if l = 3 then n / 262144 % 64 else if l = 4 then n / 16777216 % 64 else if l = 5 then n / 1073741824 % 64 else if l = 6 then n / 68719476736 % 64 else if l = 7 then n / 4398046511104 % 64 else n / 281474976710656 % 64
def withI (n l d : Int) : Int := if l = 0 then n / 64 * 64 + d % 64 else if l = 1 then n / 4096 * 4096 + d % 64 * 64 else if l = 2 then n / 262144 * 262144 + d % 64 * 4096 else if l = 3 then n / 16777216 * 16777216 + d % 64 * 262144 else if l = 4 then n / 1073741824 * 1073741824 + d % 64 * 16777216 else if l = 5 then n / 68719476736 * 68719476736 + d % 64 * 1073741824 else if l = 6 then n / 4398046511104 * 4398046511104 + d % 64 * 68719476736 else if l = 7 then n / 281474976710656 * 281474976710656 + d % 64 * 4398046511104 else n
theorem wrap_and63 (d : Int) : bits .and .u64 (IntKind.u64.wrap d) 63 = d % 64 := by
  rw [IntKind.wrap_u64, u64_and63 _ (by omega) (by omega)]; omega
def maskI (n : Int) : Int := if 64 ≤ n then 18446744073709551615 else 2 ^ n.toNat - 1
theorem wrap_pow (j : Nat) (h : j < 64) : IntKind.u64.wrap (IntKind.u64.wrap (2 ^ j) - 1) = 2 ^ j - 1 := by
  have h1 : (1 : Int) ≤ 2 ^ j := by
    have := Nat.one_le_two_pow (n := j); exact_mod_cast this
  have h2 : (2 : Int) ^ j ≤ 2 ^ 63 := by
    have := Nat.pow_le_pow_right (n := 2) (by decide) (show j ≤ 63 by omega); exact_mod_cast this
  rw [IntKind.wrap_u64, IntKind.wrap_u64]
  omega
set_option maxHeartbeats 1000000 in
theorem mask_any (n : Int) (w : World) :
    Calls Tryd.prog 34 #[.int .i64 n] w fun e w' => e = .returned (.int .u64 (maskI n)) ∧ Below w.heap.size w w' := by
  by_cases h : 64 ≤ n
  · go_enter Tryd.func34, Tryd.ntmps34
    go_wp2
    go_ret
    exact ⟨by simp [maskI, h], Below.refl _ _⟩
  · by_cases hn : 0 ≤ n
    · have e1 := wrap_pow n.toNat (by omega)
      go_enter Tryd.func34, Tryd.ntmps34
      go_wp2
      go_ret
      exact ⟨ret_int (show 2 ^ n.toNat - 1 = maskI n by rw [maskI, if_neg (by omega)]), Below.refl _ _⟩
    · go_enter Tryd.func34, Tryd.ntmps34
      go_wp2
      go_ret
      exact ⟨ret_int (show 0 = maskI n by rw [maskI, if_neg (by omega), show n.toNat = 0 by omega]; rfl), Below.refl _ _⟩
def bitI (n : Int) (i : Nat) : Bool := n / 2 ^ i % 2 == 1
/-- The number whose lowest k bits are as f tells. -/
def bs (f : Nat → Bool) : Nat → Int
  | 0 => 0
  | k + 1 => bs f k + if f k then 2 ^ k else 0
theorem bs_range (f : Nat → Bool) : ∀ k, 0 ≤ bs f k ∧ bs f k < 2 ^ k
  | 0 => by simp [bs]
  | k + 1 => by
    have h := bs_range f k
    have hp : (2 : Int) ^ (k + 1) = 2 ^ k + 2 ^ k := by rw [Int.pow_succ]; omega
    rw [bs, hp]
    split <;> omega
theorem bitI_nat (n i : Nat) : bitI (n : Int) i = n.testBit i := by
  rw [bitI, Nat.testBit_eq_decide_div_mod_eq]
  rw [show ((2 : Int) ^ i) = ((2 ^ i : Nat) : Int) by simp, ← Int.natCast_ediv]
  rw [show (((n / 2 ^ i : Nat) : Int) % 2) = ((n / 2 ^ i % 2 : Nat) : Int) by simp]
  rw [Bool.eq_iff_iff]
  simp only [beq_iff_eq, decide_eq_true_eq]
  omega
theorem bitI_toNat {n : Int} (h : 0 ≤ n) (i : Nat) : bitI n i = n.toNat.testBit i := by
  obtain ⟨m, rfl⟩ := Int.eq_ofNat_of_zero_le h
  rw [bitI_nat, Int.toNat_natCast]
theorem bs_nat (f : Nat → Bool) (k : Nat) : ∃ m : Nat, bs f k = m ∧ m < 2 ^ k ∧ ∀ i, m.testBit i = (decide (i < k) && f i) := by
  induction k with
  | zero => exact ⟨0, rfl, by simp, fun i => by simp⟩
  | succ k ih =>
    obtain ⟨m, h1, h2, h3⟩ := ih
    by_cases hf : f k = true
    · refine ⟨2 ^ k + m, by rw [bs, h1, if_pos hf, Int.natCast_add]; simp; omega, by rw [Nat.pow_succ]; omega, fun i => ?_⟩
      rcases Nat.lt_trichotomy i k with hi | rfl | hi
      · rw [Nat.testBit_two_pow_add_gt hi, h3]
        simp [hi, Nat.lt_succ_of_lt hi]
      · rw [Nat.testBit_two_pow_add_eq, Nat.testBit_lt_two_pow h2]
        simp [hf]
      · have hlt : 2 ^ k + m < 2 ^ i := Nat.lt_of_lt_of_le (by rw [Nat.pow_succ]; omega : 2 ^ k + m < 2 ^ (k + 1)) (Nat.pow_le_pow_right (by decide) hi)
        rw [Nat.testBit_lt_two_pow hlt]
        have : ¬ i < k + 1 := by omega
        simp [this]
    · refine ⟨m, by rw [bs, h1, if_neg hf]; simp, by rw [Nat.pow_succ]; omega, fun i => ?_⟩
      rw [h3]
      by_cases hi : i = k
      · subst hi; simp [hf]
      · have : decide (i < k + 1) = decide (i < k) := by rw [decide_eq_decide]; omega
        rw [this]
/-- A number below 2 to the k is the sum of its bits. -/
theorem bs_eq (f : Nat → Bool) (k m : Nat) (hm : m < 2 ^ k) (h : ∀ i, i < k → f i = m.testBit i) : bs f k = m := by
  obtain ⟨n, h1, h2, h3⟩ := bs_nat f k
  rw [h1]
  congr 1
  apply Nat.eq_of_testBit_eq
  intro i
  rw [h3]
  by_cases hi : i < k
  · simp [hi, h i hi]
  · rw [Nat.testBit_lt_two_pow (Nat.lt_of_lt_of_le hm (Nat.pow_le_pow_right (by decide) (by omega)))]
    simp [hi]
theorem half_pow (n : Int) (k : Nat) : n / 2 ^ k / 2 = n / 2 ^ (k + 1) := by
  rw [Int.pow_succ, Int.ediv_ediv_of_nonneg (by exact_mod_cast Nat.zero_le _)]
theorem pow_half_range {n : Int} (h0 : 0 ≤ n) (h1 : n ≤ 18446744073709551615) (k : Nat) : 0 ≤ n / 2 ^ k ∧ n / 2 ^ k ≤ 18446744073709551615 :=
  ⟨Int.ediv_nonneg h0 (by exact_mod_cast Nat.zero_le _), Int.le_trans (Int.ediv_le_self _ h0) h1⟩

/-- The library's table lies in its variable. -/
def Tab (w : World) : Prop := ∀ j, j < Lib.deBruijn64tab.length → w.cell? ⟨0, j, none⟩ = some (.int .u8 (Lib.deBruijn64tab.getD j 0))
theorem Tab.ext {w w' : World} (h : Tab w) (hb : Below w.heap.size w w') : Tab w' := fun j hj => (⟨w', hb⟩ : Ext w.heap.size w).cell (h j hj)
theorem Tab.at {w : World} (h : Tab w) (y : Ext w.heap.size w) : Tab y.world := h.ext y.ok
set_option maxHeartbeats 4000000 in
set_option maxRecDepth 100000 in
theorem tz_core (x k idx : Nat) (w : World) (hx0 : ((x : Int) == 0) = false)
    (key : IntKind.u64.wrap (bits BinOp.and IntKind.u64 (x : Int) (IntKind.u64.wrap (-(x : Int))) * 285870213051353865) / 288230376151711744 = (idx : Int))
    (hi : idx < 64) (hk : k < 64) (hcell : w.cell? ⟨0, idx, none⟩ = some (.int .u8 k)) :
    Calls Tryd.prog 45 #[.int .u64 x] w fun e w' => e = .returned (.int .i64 k) ∧ Below w.heap.size w w' := by
  go_enter Tryd.func45, Tryd.ntmps45
  go_wp2_with (simp only [key])
  go_ret
  exact ⟨rfl, Below.refl _ _⟩
set_option maxHeartbeats 400000 in
theorem tz_zero (w : World) : Calls Tryd.prog 45 #[.int .u64 0] w fun e w' => e = .returned (.int .i64 64) ∧ Below w.heap.size w w' := by
  go_enter Tryd.func45, Tryd.ntmps45
  go_wp2
  go_ret
  exact ⟨rfl, Below.refl _ _⟩
theorem tz_key (x a : Nat) (hx : x < 18446744073709551616) (hx0 : x ≠ 0) (hlow : x &&& (18446744073709551616 - x) = a) :
    IntKind.u64.wrap (bits BinOp.and IntKind.u64 (x : Int) (IntKind.u64.wrap (-(x : Int))) * 285870213051353865) / 288230376151711744 = ((a * 285870213051353865 % 18446744073709551616 / 288230376151711744 : Nat) : Int) := by
  have e1 : IntKind.u64.wrap (-(x : Int)) = ((18446744073709551616 - x : Nat) : Int) := by rw [IntKind.wrap_u64]; omega
  rw [e1, bits_and_u64_nat x _ hx (by omega), hlow, IntKind.wrap_u64]
  omega
theorem tz_any (x : Int) (w : World) (h0 : 0 ≤ x) (h1 : x ≤ 18446744073709551615) (hT : Tab w) :
    Calls Tryd.prog 45 #[.int .u64 x] w fun e w' => e = .returned (.int .i64 (Lib.ctz 64 x.toNat)) ∧ Below w.heap.size w w' := by
  obtain ⟨n, rfl⟩ := Int.eq_ofNat_of_zero_le h0
  rw [Int.toNat_natCast]
  by_cases hx0 : n = 0
  · subst hx0
    exact tz_zero w
  · obtain ⟨hlow, hk⟩ := Lib.lowest_bit 64 n hx0 (by omega)
    obtain ⟨hi, htab⟩ := Lib.deBruijn64_at _ hk
    have hcell := hT _ hi
    rw [htab] at hcell
    exact tz_core n _ _ w (by simp; omega) (tz_key n _ (by omega) hx0 hlow) hi hk hcell
/-- The least place among i, i + 1, .., f of them, whose bit is set; -1: there is none. -/
def scan (n : Int) : Nat → Nat → Int
  | 0, _ => -1
  | f + 1, i => if bitI n i = true then i else scan n f (i + 1)
def firstI (n s : Int) : Int := scan n (64 - s.toNat) s.toNat
theorem scan_none (n : Int) : ∀ f i, (∀ j, i ≤ j → j < i + f → bitI n j = false) → scan n f i = -1
  | 0, _, _ => rfl
  | f + 1, i, h => by
    rw [scan, h i (by omega) (by omega), if_neg (by simp)]
    exact scan_none n f (i + 1) fun j h1 h2 => h j (by omega) (by omega)
theorem scan_at (n : Int) (k : Nat) (hk : bitI n k = true) : ∀ f i, i ≤ k → k < i + f → (∀ j, i ≤ j → j < k → bitI n j = false) → scan n f i = k
  | 0, i, h1, h2, _ => by omega
  | f + 1, i, h1, h2, h => by
    by_cases e : i = k
    · subst e
      rw [scan, if_pos hk]
    · rw [scan, h i (by omega) (by omega), if_neg (by simp)]
      exact scan_at n k hk f (i + 1) (by omega) (by omega) fun j g1 g2 => h j (by omega) g2
theorem not_bits64 (b i : Nat) (hb : b < 18446744073709551616) (hi : i < 64) : (18446744073709551615 - b).testBit i = !b.testBit i := by
  have := Nat.testBit_two_pow_sub_succ (x := b) (n := 64) hb i
  rw [show 2 ^ 64 - (b + 1) = 18446744073709551615 - b by omega] at this
  rw [this]
  simp [hi]
theorem mask_nat (s : Int) (h : s < 64) : maskI s = ((2 ^ s.toNat - 1 : Nat) : Int) ∧ 2 ^ s.toNat - 1 < 18446744073709551616 := by
  have h1 := Nat.one_le_two_pow (n := s.toNat)
  have h2 := Nat.pow_le_pow_right (n := 2) (by decide) (show s.toNat ≤ 63 by omega)
  have h3 : (2 : Nat) ^ 63 = 9223372036854775808 := by decide
  have e : ((2 ^ s.toNat : Nat) : Int) = 2 ^ s.toNat := by simp
  rw [maskI, if_neg (by omega)]
  omega
/-- What is left of n from s on. -/
def rest (n s : Int) : Int := bits .andNot .u64 n (maskI s)
theorem rest_bits (n s : Int) (h0 : 0 ≤ n) (h1 : n ≤ 18446744073709551615) (hs : s < 64) :
    0 ≤ rest n s ∧ rest n s ≤ 18446744073709551615 ∧ ∀ i, i < 64 → bitI (rest n s) i = (decide (s.toNat ≤ i) && bitI n i) := by
  obtain ⟨e, hlt⟩ := mask_nat s hs
  rw [rest, e, u64_andNot n _ h0 (by omega) (by omega) (by omega), Int.toNat_natCast]
  have hl : n.toNat &&& (18446744073709551615 - (2 ^ s.toNat - 1)) < 2 ^ 64 := Nat.and_lt_two_pow _ (by omega)
  refine ⟨by omega, by omega, fun i hi => ?_⟩
  rw [bitI_nat, bitI_toNat h0, Nat.testBit_and, not_bits64 _ _ hlt hi, Nat.testBit_two_pow_sub_one]
  by_cases hc : s.toNat ≤ i
  · have : ¬ i < s.toNat := by omega
    simp [hc, this]
  · have : i < s.toNat := by omega
    simp [hc, this]
theorem ctz_bits (m : Nat) (h0 : m ≠ 0) (h1 : m < 2 ^ 64) : m.testBit (Lib.ctz 64 m) = true ∧ Lib.ctz 64 m < 64 ∧ ∀ j, j < Lib.ctz 64 m → m.testBit j = false := by
  obtain ⟨q, hq, hk⟩ := Lib.ctzFrom_spec 64 m (by omega) h1
  have e : Lib.ctz 64 m = Lib.ctzFrom 64 m := by rw [Lib.ctz, if_neg h0]
  rw [e]
  generalize Lib.ctzFrom 64 m = k at *
  refine ⟨?_, hk, fun j hj => ?_⟩
  · rw [hq, Nat.mul_comm, Nat.testBit_mul_two_pow]
    simp
  · rw [hq, Nat.mul_comm, Nat.testBit_mul_two_pow]
    have : ¬ k ≤ j := by omega
    simp [this]
theorem first_rest (n s : Int) (h0 : 0 ≤ n) (h1 : n ≤ 18446744073709551615) (hs : s < 64) :
    firstI n s = if rest n s = 0 then -1 else (Lib.ctz 64 (rest n s).toNat : Int) := by
  obtain ⟨r0, r1, r2⟩ := rest_bits n s h0 h1 hs
  by_cases hz : rest n s = 0
  · rw [if_pos hz, firstI]
    refine scan_none _ _ _ fun j g1 g2 => ?_
    have := r2 j (by omega)
    rw [hz] at this
    have e : bitI 0 j = false := by simp [bitI]
    rw [e] at this
    have d : decide (s.toNat ≤ j) = true := by simpa using g1
    rw [d] at this
    simpa using this.symm
  · rw [if_neg hz, firstI]
    obtain ⟨c0, c1, c2⟩ := ctz_bits (rest n s).toNat (by omega) (by omega)
    have b0 := r2 _ c1
    rw [bitI_toNat r0, c0] at b0
    have b1 : s.toNat ≤ Lib.ctz 64 (rest n s).toNat ∧ bitI n (Lib.ctz 64 (rest n s).toNat) = true := by
      simpa using b0.symm
    refine scan_at n _ b1.2 _ _ b1.1 (by omega) fun j g1 g2 => ?_
    have := r2 j (by omega)
    rw [bitI_toNat r0, c2 j g2] at this
    have d : decide (s.toNat ≤ j) = true := by simpa using g1
    rw [d] at this
    simpa using this.symm
set_option maxHeartbeats 4000000 in
set_option maxRecDepth 100000 in
theorem behind_any (b0 b1 : Nat) (n s : Int) (w : World) (h0 : 0 ≤ n) (h1 : n ≤ 18446744073709551615) (g0 : w.heap[b0]? = some (.cells #[.int .u64 n] 23 (0, 0))) (g1 : w.heap[b1]? = some (.cells #[.int .i64 s] 3 (0, 0))) :
    Calls Tryd.prog 44 #[.pointer (some ⟨b0, 0, none⟩), .pointer (some ⟨b1, 0, none⟩)] w fun e w' => e = .returned (.int .u64 (rest n s)) ∧ Below w.heap.size w w' := by
  obtain ⟨k0, f0⟩ := Ext.cells g0
  obtain ⟨k1, f1⟩ := Ext.cells g1
  go_enter Tryd.func44, Tryd.ntmps44
  refine wp_start ?_
  intro x
  go_wp2_with fail
  refine wp_region_ext _ (by kernel_rfl) (by kernel_rfl) ?_
  repeat (go_big_quiet_step ((go_at_call 34; refine Ext.call (mask_any _ _))))
  refine wpQuiet_nil ?_
  rintro _ ⟨y, rfl⟩
  go_wp2_with fail
  go_ret
  exact ⟨rfl, Ext.ok _⟩
set_option maxHeartbeats 4000000 in
set_option maxRecDepth 100000 in
theorem first_any (n s : Int) (w : World) (h0 : 0 ≤ n) (h1 : n ≤ 18446744073709551615) (hT : Tab w) :
    Calls Tryd.prog 40 #[.int .u64 n, .int .i64 s] w fun e w' => e = .returned (.int .i64 (firstI n s)) ∧ Below w.heap.size w w' := by
  by_cases hs : 64 ≤ s
  · have d1 : decide (64 ≤ s) = true := by simpa using hs
    go_enter Tryd.func40, Tryd.ntmps40
    go_wp2_with fail
    go_ret
    exact ⟨ret_int (show -1 = firstI n s by rw [firstI, show 64 - s.toNat = 0 by omega]; rfl), below_new (below_new (Below.refl _ _) _) _⟩
  · have d1 : decide (64 ≤ s) = false := by simpa using hs
    have e1 := first_rest n s h0 h1 (by omega)
    obtain ⟨r0, r1, _⟩ := rest_bits n s h0 h1 (by omega)
    have HT := Lib.hid hT
    clear hT
    rcases Bool.eq_false_or_eq_true (rest n s == 0) with hz | hz
    · have hz' : rest n s = 0 := by simpa using hz
      rw [if_pos hz'] at e1
      have E1 := Lib.hid e1
      clear e1 hz'
      go_enter Tryd.func40, Tryd.ntmps40
      go_wp2_with fail
      refine calls_box2 ?_
      intro W hB g0 g1 _
      refine (behind_any _ _ _ _ _ h0 h1 g0 g1).mono ?_
      rintro e wr ⟨rfl, hbr⟩
      go_wp2_with fail
      go_ret
      exact ⟨ret_int E1.out.symm, below_then hB hbr⟩
    · have hz' : ¬ rest n s = 0 := by simpa using hz
      rw [if_neg hz'] at e1
      have E1 := Lib.hid e1
      clear e1 hz'
      go_enter Tryd.func40, Tryd.ntmps40
      go_wp2_with fail
      refine calls_box2 ?_
      intro W hB g0 g1 _
      refine (behind_any _ _ _ _ _ h0 h1 g0 g1).mono ?_
      rintro e wr ⟨rfl, hbr⟩
      obtain ⟨x, rfl⟩ := Ext.of hbr
      go_wp2_with fail
      refine (behind_any _ _ _ _ _ h0 h1 (x.block g0) (x.block g1)).mono ?_
      rintro e wr2 ⟨rfl, hbr2⟩
      obtain ⟨y, rfl⟩ := x.step hbr2
      go_wp2_with fail
      refine (tz_any _ _ r0 r1 ((HT.out.ext hB).at y)).mono ?_
      rintro e wr3 ⟨rfl, hbr3⟩
      go_wp2_with fail
      go_ret
      exact ⟨ret_int E1.out.symm, below_then (below_then hB y.ok) hbr3⟩
theorem pow_small (k : Nat) (h : k < 32) : (1 : Int) ≤ 2 ^ k ∧ (2 : Int) ^ k ≤ 2147483648 := by
  have h1 := Nat.one_le_two_pow (n := k)
  have h2 := Nat.pow_le_pow_right (n := 2) (by decide) (show k ≤ 31 by omega)
  have h3 : (2 : Nat) ^ 31 = 2147483648 := by decide
  rw [h3] at h2
  have e : ((2 ^ k : Nat) : Int) = 2 ^ k := by simp
  omega
theorem wrap_unit (k : Nat) (h : k < 32) : IntKind.u32.wrap (2 ^ k) = 2 ^ k := by
  have := pow_small k h
  rw [IntKind.wrap_u32]; omega
theorem wrap_unit2 (k : Nat) : IntKind.u32.wrap (2 * 2 ^ k) = IntKind.u32.wrap (2 ^ (k + 1)) := by
  rw [Int.pow_succ, Int.mul_comm]
theorem not_bits (b i : Nat) (hb : b < 4294967296) (hi : i < 32) : (4294967295 - b).testBit i = !b.testBit i := by
  have := Nat.testBit_two_pow_sub_succ (x := b) (n := 32) hb i
  rw [show 2 ^ 32 - (b + 1) = 4294967295 - b by omega] at this
  rw [this]
  simp [hi]
theorem lt_u32 {n : Int} (h0 : 0 ≤ n) (h1 : n ≤ 4294967295) : n.toNat < 2 ^ 32 := by omega
theorem nat_u32 {m : Nat} (h : m < 2 ^ 32) : 0 ≤ (m : Int) ∧ (m : Int) ≤ 4294967295 := by omega
theorem and_u32 (a b : Int) (h1 : 0 ≤ a) (h2 : a ≤ 4294967295) (h3 : 0 ≤ b) (h4 : b ≤ 4294967295) :
    0 ≤ bits .and .u32 a b ∧ bits .and .u32 a b ≤ 4294967295 ∧ ∀ i, i < 32 → bitI (bits .and .u32 a b) i = (bitI a i && bitI b i) := by
  rw [u32_and a b h1 (by omega) h3 (by omega)]
  obtain ⟨r0, r1⟩ := nat_u32 (Nat.and_lt_two_pow a.toNat (lt_u32 h3 h4))
  refine ⟨r0, r1, fun i hi => ?_⟩
  rw [bitI_nat, bitI_toNat h1, bitI_toNat h3, Nat.testBit_and]
theorem or_u32 (a b : Int) (h1 : 0 ≤ a) (h2 : a ≤ 4294967295) (h3 : 0 ≤ b) (h4 : b ≤ 4294967295) :
    0 ≤ bits .or .u32 a b ∧ bits .or .u32 a b ≤ 4294967295 ∧ ∀ i, i < 32 → bitI (bits .or .u32 a b) i = (bitI a i || bitI b i) := by
  rw [u32_or a b h1 (by omega) h3 (by omega)]
  obtain ⟨r0, r1⟩ := nat_u32 (Nat.or_lt_two_pow (lt_u32 h1 h2) (lt_u32 h3 h4))
  refine ⟨r0, r1, fun i hi => ?_⟩
  rw [bitI_nat, bitI_toNat h1, bitI_toNat h3, Nat.testBit_or]
theorem xor_u32 (a b : Int) (h1 : 0 ≤ a) (h2 : a ≤ 4294967295) (h3 : 0 ≤ b) (h4 : b ≤ 4294967295) :
    0 ≤ bits .xor .u32 a b ∧ bits .xor .u32 a b ≤ 4294967295 ∧ ∀ i, i < 32 → bitI (bits .xor .u32 a b) i = (bitI a i ^^ bitI b i) := by
  rw [u32_xor a b h1 (by omega) h3 (by omega)]
  obtain ⟨r0, r1⟩ := nat_u32 (Nat.xor_lt_two_pow (lt_u32 h1 h2) (lt_u32 h3 h4))
  refine ⟨r0, r1, fun i hi => ?_⟩
  rw [bitI_nat, bitI_toNat h1, bitI_toNat h3, Nat.testBit_xor]
theorem andNot_u32 (a b : Int) (h1 : 0 ≤ a) (h2 : a ≤ 4294967295) (h3 : 0 ≤ b) (h4 : b ≤ 4294967295) :
    0 ≤ bits .andNot .u32 a b ∧ bits .andNot .u32 a b ≤ 4294967295 ∧ ∀ i, i < 32 → bitI (bits .andNot .u32 a b) i = (bitI a i && !bitI b i) := by
  rw [u32_andNot a b h1 (by omega) h3 (by omega)]
  obtain ⟨r0, r1⟩ := nat_u32 (Nat.and_lt_two_pow a.toNat (show 4294967295 - b.toNat < 2 ^ 32 by omega))
  refine ⟨r0, r1, fun i hi => ?_⟩
  rw [bitI_nat, bitI_toNat h1, bitI_toNat h3, Nat.testBit_and, not_bits _ _ (by omega) hi]
/-- Two numbers of 32 bits are one if their bits are. -/
theorem bits_ext {a b : Int} (h1 : 0 ≤ a) (h2 : a ≤ 4294967295) (h3 : 0 ≤ b) (h4 : b ≤ 4294967295) (h : ∀ i, i < 32 → bitI a i = bitI b i) : a = b := by
  have e : a.toNat = b.toNat := by
    apply Nat.eq_of_testBit_eq
    intro i
    by_cases hi : i < 32
    · rw [← bitI_toNat h1, ← bitI_toNat h3, h i hi]
    · have hp : (2 : Nat) ^ 32 ≤ 2 ^ i := Nat.pow_le_pow_right (by decide) (by omega)
      rw [Nat.testBit_lt_two_pow (Nat.lt_of_lt_of_le (lt_u32 h1 h2) hp), Nat.testBit_lt_two_pow (Nat.lt_of_lt_of_le (lt_u32 h3 h4) hp)]
  omega
theorem bs_bits (f : Nat → Bool) : 0 ≤ bs f 32 ∧ bs f 32 ≤ 4294967295 ∧ ∀ i, i < 32 → bitI (bs f 32) i = f i := by
  obtain ⟨m, h1, h2, h3⟩ := bs_nat f 32
  obtain ⟨r0, r1⟩ := nat_u32 h2
  rw [h1]
  refine ⟨r0, r1, fun i hi => ?_⟩
  rw [bitI_nat, h3]
  simp [hi]
theorem zero_bits (i : Nat) : bitI 0 i = false := by simp [bitI]
def okF (low width : Int) : Prop := 0 ≤ low ∧ low < 32 ∧ 1 ≤ width
instance (low width : Int) : Decidable (okF low width) := inferInstanceAs (Decidable (_ ∧ _ ∧ _))
def inF (low width : Int) (i : Nat) : Bool := decide (low ≤ i) && decide ((i : Int) - low < width)
def fmask (low width : Int) : Int := if okF low width then bs (inF low width) 32 else 0
def fcount (low width : Int) : Nat := min width.toNat (32 - low.toNat)
def fieldI (n low width : Int) : Int := if okF low width then bs (fun j => bitI n (low.toNat + j)) (fcount low width) else 0
def putF (n low width v : Int) (i : Nat) : Bool := if inF low width i = true then bitI v (i - low.toNat) else bitI n i
def putI (n low width v : Int) : Int := if okF low width then bs (putF n low width v) 32 else n

theorem mask_range (n : Int) : 0 ≤ maskI n ∧ maskI n ≤ 18446744073709551615 := by
  by_cases h : n < 64
  · obtain ⟨h1, h2⟩ := mask_nat n h
    omega
  · rw [maskI, if_pos (by omega)]; omega
theorem mul_bits (v l i : Nat) (hi : i < 32) : (v * 2 ^ l % 2 ^ 32).testBit i = (decide (l ≤ i) && v.testBit (i - l)) := by
  rw [Nat.testBit_mod_two_pow, Nat.testBit_mul_two_pow]
  simp [hi]
theorem shl_u32 (v l : Nat) : IntKind.u32.wrap ((v : Int) * 2 ^ l) = ((v * 2 ^ l % 2 ^ 32 : Nat) : Int) := by
  rw [IntKind.wrap_u32]
  simp
theorem shl_bits (v : Int) (l i : Nat) (h0 : 0 ≤ v) (hi : i < 32) : bitI (IntKind.u32.wrap (v * 2 ^ l)) i = (decide (l ≤ i) && bitI v (i - l)) := by
  obtain ⟨V, rfl⟩ := Int.eq_ofNat_of_zero_le h0
  have e := shl_u32 V l
  rw [e, bitI_nat, bitI_nat, mul_bits V l i hi]
theorem shl_range (v : Int) (l : Nat) : 0 ≤ IntKind.u32.wrap (v * 2 ^ l) ∧ IntKind.u32.wrap (v * 2 ^ l) ≤ 4294967295 := by
  rw [IntKind.wrap_u32]; omega
theorem fmask_eq (k l : Nat) (hk : k ≤ 32) (hl : l < 32) (low width : Int) (hlow : low = l) (hw : width = k ∨ (k = 32 ∧ 32 ≤ width)) (hk1 : 1 ≤ k) :
    IntKind.u32.wrap (IntKind.u64.wrap ((2 ^ k - 1) * 2 ^ l)) = fmask low width := by
  have hp : ((2 ^ k - 1 : Nat) : Int) = 2 ^ k - 1 := by
    have := Nat.one_le_two_pow (n := k)
    push_cast [this]
    rfl
  have e1 : IntKind.u32.wrap (IntKind.u64.wrap (((2 : Int) ^ k - 1) * 2 ^ l)) = IntKind.u32.wrap (((2 : Int) ^ k - 1) * 2 ^ l) := by
    rw [IntKind.wrap_u64, IntKind.wrap_u32, IntKind.wrap_u32]; omega
  rw [e1, ← hp, shl_u32, fmask, if_pos ⟨by omega, by omega, by omega⟩]
  symm
  apply bs_eq _ _ _ (Nat.mod_lt _ (by decide))
  intro i hi
  rw [mul_bits _ _ _ hi, Nat.testBit_two_pow_sub_one, inF, hlow]
  have a1 : decide ((l : Int) ≤ (i : Int)) = decide (l ≤ i) := by rw [decide_eq_decide]; omega
  by_cases h : l ≤ i
  · have a2 : decide ((i : Int) - (l : Int) < width) = decide (i - l < k) := by rw [decide_eq_decide]; omega
    rw [a1, a2]
  · rw [a1]; simp [h]
theorem fmask_range (low width : Int) : 0 ≤ fmask low width ∧ fmask low width ≤ 4294967295 := by
  rw [fmask]
  split
  · obtain ⟨h1, h2, _⟩ := bs_bits (inF low width)
    exact ⟨h1, h2⟩
  · decide
theorem fmask_bits {low width : Int} (h : okF low width) (i : Nat) (hi : i < 32) : bitI (fmask low width) i = inF low width i := by
  rw [fmask, if_pos h]
  exact (bs_bits _).2.2 i hi
theorem fmask_none {low width : Int} (h : ¬ okF low width) : (fmask low width == 0) = true := by rw [fmask, if_neg h]; rfl
theorem fmask_some {low width : Int} (h : okF low width) : (fmask low width == 0) = false := by
  have h1 := fmask_bits h low.toNat (by have := h.1; have := h.2.1; omega)
  have h2 : inF low width low.toNat = true := by
    have := h.1; have := h.2.2
    simp only [inF, Bool.and_eq_true, decide_eq_true_eq]
    omega
  rw [h2] at h1
  apply Bool.eq_false_iff.2
  intro h3
  have h4 : fmask low width = 0 := by simpa using h3
  rw [h4] at h1
  simp [bitI] at h1
theorem field_plain {n low width : Int} (h : okF low width) (n0 : 0 ≤ n) (n1 : n ≤ 4294967295) : bits .and .u32 n (fmask low width) / 2 ^ low.toNat = fieldI n low width := by
  obtain ⟨m0, m1⟩ := fmask_range low width
  obtain ⟨a0, a1, a2⟩ := and_u32 n (fmask low width) n0 n1 m0 m1
  obtain ⟨x, hx⟩ := Int.eq_ofNat_of_zero_le a0
  obtain ⟨g0, g1, g2⟩ := h
  have hz : ∀ i, 32 ≤ i → x.testBit i = false := fun i hi => Nat.testBit_lt_two_pow (Nat.lt_of_lt_of_le (show x < 2 ^ 32 by rw [hx] at a1; omega) (Nat.pow_le_pow_right (by decide) hi))
  have hb : ∀ i, i < 32 → x.testBit i = (bitI n i && inF low width i) := fun i hi => by
    have := a2 i hi
    rw [hx, bitI_nat, fmask_bits ⟨g0, g1, g2⟩ i hi] at this
    exact this
  have hd : ∀ j, (x / 2 ^ low.toNat).testBit j = x.testBit (low.toNat + j) := fun j => by rw [Nat.testBit_div_two_pow, Nat.add_comm]
  rw [hx, fieldI, if_pos ⟨g0, g1, g2⟩]
  have e : ((x : Int) / 2 ^ low.toNat : Int) = ((x / 2 ^ low.toNat : Nat) : Int) := by simp
  rw [e]
  symm
  apply bs_eq
  · apply Nat.lt_pow_two_of_testBit
    intro i hi
    rw [hd]
    by_cases hl : low.toNat + i < 32
    · rw [hb _ hl]
      have : inF low width (low.toNat + i) = false := by
        unfold fcount at hi
        simp only [inF, Bool.and_eq_false_iff, decide_eq_false_iff_not]
        omega
      rw [this, Bool.and_false]
    · exact hz _ (by omega)
  · intro i hi
    unfold fcount at hi
    rw [hd, hb _ (by omega)]
    have : inF low width (low.toNat + i) = true := by
      simp only [inF, Bool.and_eq_true, decide_eq_true_eq]
      omega
    rw [this, Bool.and_true]
theorem put_plain {n low width v : Int} (h : okF low width) (n0 : 0 ≤ n) (n1 : n ≤ 4294967295) (v0 : 0 ≤ v) :
    bits .or .u32 (bits .andNot .u32 n (fmask low width)) (bits .and .u32 (IntKind.u32.wrap (v * 2 ^ low.toNat)) (fmask low width)) = putI n low width v := by
  obtain ⟨m0, m1⟩ := fmask_range low width
  obtain ⟨s0, s1⟩ := shl_range v low.toNat
  obtain ⟨a0, a1, a2⟩ := andNot_u32 n (fmask low width) n0 n1 m0 m1
  obtain ⟨b0, b1, b2⟩ := and_u32 _ (fmask low width) s0 s1 m0 m1
  obtain ⟨c0, c1, c2⟩ := or_u32 _ _ a0 a1 b0 b1
  obtain ⟨p0, p1, p2⟩ := bs_bits (putF n low width v)
  rw [putI, if_pos h]
  refine bits_ext c0 c1 p0 p1 fun i hi => ?_
  rw [c2 i hi, a2 i hi, b2 i hi, p2 i hi, fmask_bits h i hi, shl_bits v _ i v0 hi, putF]
  by_cases hin : inF low width i = true
  · have hl : decide (low.toNat ≤ i) = true := by
      simp only [inF, Bool.and_eq_true, decide_eq_true_eq] at hin ⊢
      omega
    have hl2 : low ≤ (i : Int) := by have := h.1; simp at hl; omega
    simp [hin, hl2]
  · simp [hin]
theorem put_range {n low width v : Int} (n0 : 0 ≤ n) (n1 : n ≤ 4294967295) : 0 ≤ putI n low width v ∧ putI n low width v ≤ 4294967295 := by
  rw [putI]
  split
  · obtain ⟨h1, h2, _⟩ := bs_bits (putF n low width v)
    exact ⟨h1, h2⟩
  · exact ⟨n0, n1⟩
theorem bs_bit (f : Nat → Bool) (k i : Nat) (hi : i < k) : bitI (bs f k) i = f i := by
  obtain ⟨m, h1, h2, h3⟩ := bs_nat f k
  rw [h1, bitI_nat, h3]
  simp [hi]
theorem field_range {n low width : Int} : 0 ≤ fieldI n low width ∧ fieldI n low width ≤ 4294967295 := by
  rw [fieldI]
  split
  · obtain ⟨h1, h2⟩ := bs_range (fun j => bitI n (low.toNat + j)) (fcount low width)
    have h3 := Nat.pow_le_pow_right (n := 2) (by decide) (show fcount low width ≤ 32 by unfold fcount; omega)
    have h4 : ((2 ^ fcount low width : Nat) : Int) = 2 ^ fcount low width := by simp
    omega
  · decide
theorem put_back {n low width v : Int} (n0 : 0 ≤ n) (n1 : n ≤ 4294967295) : putI (putI n low width v) low width (fieldI n low width) = n := by
  by_cases h : okF low width
  · rw [putI, if_pos h]
    obtain ⟨p0, p1, p2⟩ := bs_bits (putF (putI n low width v) low width (fieldI n low width))
    refine bits_ext p0 p1 n0 n1 fun i hi => ?_
    rw [p2 i hi, putF]
    by_cases hin : inF low width i = true
    · rw [if_pos hin, fieldI, if_pos h]
      simp only [inF, Bool.and_eq_true, decide_eq_true_eq] at hin
      have := h.1
      rw [bs_bit _ _ _ (by unfold fcount; omega), show low.toNat + (i - low.toNat) = i by omega]
    · rw [if_neg hin, putI, if_pos h, (bs_bits _).2.2 i hi, putF, if_neg hin]
  · rw [putI, if_neg h, putI, if_neg h]

end Go.Proofs.YtelnembjcgkiaaaDoor
