/- First, and the document's First: the lowest bit from a place on. -/
import Derived.Test.YtnoafhfidecppaaDoorBitsF
namespace Go.Proofs.YtnoafhfidecppaaDoor
open Go.RowKit
set_option linter.unusedVariables false
set_option linter.unusedSimpArgs false

/-- The least place among i, i + 1, .., f of them, whose bit is set; -1: there is none. -/
def scan (n : Int) : Nat → Nat → Int
  | 0, _ => -1
  | f + 1, i => if bitI n i = true then i else scan n f (i + 1)
def firstI (n s : Int) : Int := scan n (64 - s.toNat) s.toNat
theorem scan_none (n : Int) : ∀ f i, (∀ j, i ≤ j → j < i + f → bitI n j = false) → scan n f i = -1
  | 0, _, _ => rfl
  | f + 1, i, h => by
    rw [scan, h i (by omega) (by omega), if_neg (by simp)]
    exact scan_none n f (i + 1) fun j h1 h2 => h j (by omega) (by omega)
theorem scan_at (n : Int) (k : Nat) (hk : bitI n k = true) : ∀ f i, i ≤ k → k < i + f → (∀ j, i ≤ j → j < k → bitI n j = false) → scan n f i = k
  | 0, i, h1, h2, _ => by omega
  | f + 1, i, h1, h2, h => by
    by_cases e : i = k
    · subst e
      rw [scan, if_pos hk]
    · rw [scan, h i (by omega) (by omega), if_neg (by simp)]
      exact scan_at n k hk f (i + 1) (by omega) (by omega) fun j g1 g2 => h j (by omega) g2
theorem not_bits64 (b i : Nat) (hb : b < 18446744073709551616) (hi : i < 64) : (18446744073709551615 - b).testBit i = !b.testBit i := by
  have := Nat.testBit_two_pow_sub_succ (x := b) (n := 64) hb i
  rw [show 2 ^ 64 - (b + 1) = 18446744073709551615 - b by omega] at this
  rw [this]
  simp [hi]
theorem mask_nat (s : Int) (h : s < 64) : maskI s = ((2 ^ s.toNat - 1 : Nat) : Int) ∧ 2 ^ s.toNat - 1 < 18446744073709551616 := by
  have h1 := Nat.one_le_two_pow (n := s.toNat)
  have h2 := Nat.pow_le_pow_right (n := 2) (by decide) (show s.toNat ≤ 63 by omega)
  have h3 : (2 : Nat) ^ 63 = 9223372036854775808 := by decide
  have e : ((2 ^ s.toNat : Nat) : Int) = 2 ^ s.toNat := by simp
  rw [maskI, if_neg (by omega)]
  omega
/-- What is left of n from s on. -/
def rest (n s : Int) : Int := bits .andNot .u64 n (maskI s)
theorem rest_bits (n s : Int) (h0 : 0 ≤ n) (h1 : n ≤ 18446744073709551615) (hs : s < 64) :
    0 ≤ rest n s ∧ rest n s ≤ 18446744073709551615 ∧ ∀ i, i < 64 → bitI (rest n s) i = (decide (s.toNat ≤ i) && bitI n i) := by
  obtain ⟨e, hlt⟩ := mask_nat s hs
  rw [rest, e, u64_andNot n _ h0 (by omega) (by omega) (by omega), Int.toNat_natCast]
  have hl : n.toNat &&& (18446744073709551615 - (2 ^ s.toNat - 1)) < 2 ^ 64 := Nat.and_lt_two_pow _ (by omega)
  refine ⟨by omega, by omega, fun i hi => ?_⟩
  rw [bitI_nat, bitI_toNat h0, Nat.testBit_and, not_bits64 _ _ hlt hi, Nat.testBit_two_pow_sub_one]
  by_cases hc : s.toNat ≤ i
  · have : ¬ i < s.toNat := by omega
    simp [hc, this]
  · have : i < s.toNat := by omega
    simp [hc, this]
theorem ctz_bits (m : Nat) (h0 : m ≠ 0) (h1 : m < 2 ^ 64) : m.testBit (Lib.ctz 64 m) = true ∧ Lib.ctz 64 m < 64 ∧ ∀ j, j < Lib.ctz 64 m → m.testBit j = false := by
  obtain ⟨q, hq, hk⟩ := Lib.ctzFrom_spec 64 m (by omega) h1
  have e : Lib.ctz 64 m = Lib.ctzFrom 64 m := by rw [Lib.ctz, if_neg h0]
  rw [e]
  generalize Lib.ctzFrom 64 m = k at *
  refine ⟨?_, hk, fun j hj => ?_⟩
  · rw [hq, Nat.mul_comm, Nat.testBit_mul_two_pow]
    simp
  · rw [hq, Nat.mul_comm, Nat.testBit_mul_two_pow]
    have : ¬ k ≤ j := by omega
    simp [this]
theorem first_rest (n s : Int) (h0 : 0 ≤ n) (h1 : n ≤ 18446744073709551615) (hs : s < 64) :
    firstI n s = if rest n s = 0 then -1 else (Lib.ctz 64 (rest n s).toNat : Int) := by
  obtain ⟨r0, r1, r2⟩ := rest_bits n s h0 h1 hs
  by_cases hz : rest n s = 0
  · rw [if_pos hz, firstI]
    refine scan_none _ _ _ fun j g1 g2 => ?_
    have := r2 j (by omega)
    rw [hz] at this
    have e : bitI 0 j = false := by simp [bitI]
    rw [e] at this
    have d : decide (s.toNat ≤ j) = true := by simpa using g1
    rw [d] at this
    simpa using this.symm
  · rw [if_neg hz, firstI]
    obtain ⟨c0, c1, c2⟩ := ctz_bits (rest n s).toNat (by omega) (by omega)
    have b0 := r2 _ c1
    rw [bitI_toNat r0, c0] at b0
    have b1 : s.toNat ≤ Lib.ctz 64 (rest n s).toNat ∧ bitI n (Lib.ctz 64 (rest n s).toNat) = true := by
      simpa using b0.symm
    refine scan_at n _ b1.2 _ _ b1.1 (by omega) fun j g1 g2 => ?_
    have := r2 j (by omega)
    rw [bitI_toNat r0, c2 j g2] at this
    have d : decide (s.toNat ≤ j) = true := by simpa using g1
    rw [d] at this
    simpa using this.symm
set_option maxHeartbeats 4000000 in
set_option maxRecDepth 100000 in
theorem behind_any (b0 b1 : Nat) (n s : Int) (w : World) (h0 : 0 ≤ n) (h1 : n ≤ 18446744073709551615) (g0 : w.heap[b0]? = some (.cells #[.int .u64 n] 22 (0, 0))) (g1 : w.heap[b1]? = some (.cells #[.int .i64 s] 3 (0, 0))) :
    Calls Tryd.prog 55 #[.pointer (some ⟨b0, 0, none⟩), .pointer (some ⟨b1, 0, none⟩)] w fun e w' => e = .returned (.int .u64 (rest n s)) ∧ Below w.heap.size w w' := by
  obtain ⟨k0, f0⟩ := Ext.cells g0
  obtain ⟨k1, f1⟩ := Ext.cells g1
  go_enter Tryd.func55, Tryd.ntmps55
  refine wp_start ?_
  intro x
  go_wp2_with fail
  refine wp_region_ext _ (by kernel_rfl) (by kernel_rfl) ?_
  repeat (go_big_quiet_step ((go_at_call 34; refine Ext.call (mask_any _ _))))
  refine wpQuiet_nil ?_
  rintro _ ⟨y, rfl⟩
  go_wp2_with fail
  go_ret
  exact ⟨rfl, Ext.ok _⟩
set_option maxHeartbeats 4000000 in
set_option maxRecDepth 100000 in
theorem first_any (n s : Int) (w : World) (h0 : 0 ≤ n) (h1 : n ≤ 18446744073709551615) (hT : Tab w) :
    Calls Tryd.prog 19 #[.int .u64 n, .int .i64 s] w fun e w' => e = .returned (.int .i64 (firstI n s)) ∧ Below w.heap.size w w' := by
  by_cases hs : 64 ≤ s
  · have d1 : decide (64 ≤ s) = true := by simpa using hs
    go_enter Tryd.func19, Tryd.ntmps19
    go_wp2_with fail
    go_ret
    exact ⟨ret_int (show -1 = firstI n s by rw [firstI, show 64 - s.toNat = 0 by omega]; rfl), below_new (below_new (Below.refl _ _) _) _⟩
  · have d1 : decide (64 ≤ s) = false := by simpa using hs
    have e1 := first_rest n s h0 h1 (by omega)
    obtain ⟨r0, r1, _⟩ := rest_bits n s h0 h1 (by omega)
    have HT := Lib.hid hT
    clear hT
    rcases Bool.eq_false_or_eq_true (rest n s == 0) with hz | hz
    · have hz' : rest n s = 0 := by simpa using hz
      rw [if_pos hz'] at e1
      have E1 := Lib.hid e1
      clear e1 hz'
      go_enter Tryd.func19, Tryd.ntmps19
      go_wp2_with fail
      refine calls_box2 ?_
      intro W hB g0 g1 _
      refine (behind_any _ _ _ _ _ h0 h1 g0 g1).mono ?_
      rintro e wr ⟨rfl, hbr⟩
      go_wp2_with fail
      go_ret
      exact ⟨ret_int E1.out.symm, below_then hB hbr⟩
    · have hz' : ¬ rest n s = 0 := by simpa using hz
      rw [if_neg hz'] at e1
      have E1 := Lib.hid e1
      clear e1 hz'
      go_enter Tryd.func19, Tryd.ntmps19
      go_wp2_with fail
      refine calls_box2 ?_
      intro W hB g0 g1 _
      refine (behind_any _ _ _ _ _ h0 h1 g0 g1).mono ?_
      rintro e wr ⟨rfl, hbr⟩
      obtain ⟨x, rfl⟩ := Ext.of hbr
      go_wp2_with fail
      refine (behind_any _ _ _ _ _ h0 h1 (x.block g0) (x.block g1)).mono ?_
      rintro e wr2 ⟨rfl, hbr2⟩
      obtain ⟨y, rfl⟩ := x.step hbr2
      go_wp2_with fail
      refine (tz_any _ _ r0 r1 ((HT.out.ext hB).at y)).mono ?_
      rintro e wr3 ⟨rfl, hbr3⟩
      go_wp2_with fail
      go_ret
      exact ⟨ret_int E1.out.symm, below_then (below_then hB y.ok) hbr3⟩
set_option maxHeartbeats 4000000 in
set_option maxRecDepth 100000 in
theorem rfirst_pos (n : Int) (t : Nat) (R : Int) (HR : Hid (scan n (64 - t) t = R)) (w : World) (h0 : 0 ≤ n) (h1 : n ≤ 18446744073709551615) (s1 : (t : Int) ≤ 9223372036854775807) :
    Calls Tryd.prog 20 #[.int .u64 n, .int .i64 t] w fun e w' => e = .returned (.int .i64 R) ∧ Below w.heap.size w w' := by
  go_enter Tryd.func20, Tryd.ntmps20
  go_wp2
  go_loopg [5] (max t 64 - t) (fun g i wr => ∃ (j : Nat) (x : Ext w.heap.size w), t ≤ j ∧ j + g = max t 64 ∧ i = .int .i64 j ∧ Hid (scan n (64 - j) j = R) ∧ wr = x.world)
  case atStart => exact ⟨t, ⟨w, Below.refl _ _⟩, by omega, by omega, rfl, HR, rfl⟩
  case round =>
    obtain ⟨j, x, hj, hjg, rfl, HS, rfl⟩ := hrel
    by_cases hlt : j < 64
    · cases gk with
      | zero => omega
      | succ g =>
      obtain ⟨m, hm⟩ : ∃ m, 64 - j = m + 1 := ⟨63 - j, by omega⟩
      have hm2 : 64 - (j + 1) = m := by omega
      rcases Bool.eq_false_or_eq_true (bitI n j) with hb | hb
      · go_wp2_with (first | (go_at_call 57; refine (bit01_any _ _ _ h0 h1 (by omega)).mono ?_; rintro e wr ⟨rfl, hbr⟩; obtain ⟨y, rfl⟩ := Ext.step _ hbr; clear hbr))
        go_ret
        exact ⟨ret_int (by have := HS.out; rw [hm, scan, if_pos hb] at this; exact this), Ext.ok _⟩
      · go_wp2_with (first | (go_at_call 57; refine (bit01_any _ _ _ h0 h1 (by omega)).mono ?_; rintro e wr ⟨rfl, hbr⟩; obtain ⟨y, rfl⟩ := Ext.step _ hbr; clear hbr))
        go_roundg g
        case measure => omega
        case rel => exact ⟨j + 1, _, by omega, by omega, by go_num, by have := HS.out; rw [hm, scan, hb, if_neg (by simp)] at this; rw [hm2]; exact this, rfl⟩
    · have hR : -1 = R := by have := HS.out; rw [show 64 - j = 0 by omega, scan] at this; exact this
      have HR2 := Lib.hid hR
      clear hR hjg
      go_wp2
      go_ret
      exact ⟨ret_int HR2.out, Ext.ok _⟩
set_option maxHeartbeats 4000000 in
set_option maxRecDepth 100000 in
theorem rfirst_neg (n s : Int) (t : Nat) (ht : t = 0) (R : Int) (HR : Hid (scan n (64 - t) t = R)) (w : World) (h0 : 0 ≤ n) (h1 : n ≤ 18446744073709551615) (hs : s < 0) :
    Calls Tryd.prog 20 #[.int .u64 n, .int .i64 s] w fun e w' => e = .returned (.int .i64 R) ∧ Below w.heap.size w w' := by
  have HT := Lib.hid ht
  clear ht
  go_enter Tryd.func20, Tryd.ntmps20
  go_wp2
  go_loopg [5] (max t 64 - t) (fun g i wr => ∃ (j : Nat) (x : Ext w.heap.size w), t ≤ j ∧ j + g = max t 64 ∧ i = .int .i64 j ∧ Hid (scan n (64 - j) j = R) ∧ wr = x.world)
  case atStart => exact ⟨t, ⟨w, Below.refl _ _⟩, by omega, by omega, by rw [HT.out]; rfl, HR, rfl⟩
  case round =>
    obtain ⟨j, x, hj, hjg, rfl, HS, rfl⟩ := hrel
    by_cases hlt : j < 64
    · cases gk with
      | zero => omega
      | succ g =>
      obtain ⟨m, hm⟩ : ∃ m, 64 - j = m + 1 := ⟨63 - j, by omega⟩
      have hm2 : 64 - (j + 1) = m := by omega
      rcases Bool.eq_false_or_eq_true (bitI n j) with hb | hb
      · go_wp2_with (first | (go_at_call 57; refine (bit01_any _ _ _ h0 h1 (by omega)).mono ?_; rintro e wr ⟨rfl, hbr⟩; obtain ⟨y, rfl⟩ := Ext.step _ hbr; clear hbr))
        go_ret
        exact ⟨ret_int (by have := HS.out; rw [hm, scan, if_pos hb] at this; exact this), Ext.ok _⟩
      · go_wp2_with (first | (go_at_call 57; refine (bit01_any _ _ _ h0 h1 (by omega)).mono ?_; rintro e wr ⟨rfl, hbr⟩; obtain ⟨y, rfl⟩ := Ext.step _ hbr; clear hbr))
        go_roundg g
        case measure => omega
        case rel => exact ⟨j + 1, _, by omega, by omega, by go_num, by have := HS.out; rw [hm, scan, hb, if_neg (by simp)] at this; rw [hm2]; exact this, rfl⟩
    · have hR : -1 = R := by have := HS.out; rw [show 64 - j = 0 by omega, scan] at this; exact this
      have HR2 := Lib.hid hR
      clear hR hjg
      go_wp2
      go_ret
      exact ⟨ret_int HR2.out, Ext.ok _⟩
theorem rfirst_any (n s : Int) (w : World) (h0 : 0 ≤ n) (h1 : n ≤ 18446744073709551615) (s1 : s ≤ 9223372036854775807) :
    Calls Tryd.prog 20 #[.int .u64 n, .int .i64 s] w fun e w' => e = .returned (.int .i64 (firstI n s)) ∧ Below w.heap.size w w' := by
  by_cases hs : s < 0
  · exact rfirst_neg n s 0 rfl _ (by rw [firstI, show s.toNat = 0 by omega]; exact rfl) w h0 h1 hs
  · obtain ⟨t, rfl⟩ := Int.eq_ofNat_of_zero_le (show 0 ≤ s by omega)
    exact rfirst_pos n t _ rfl w h0 h1 s1
end Go.Proofs.YtnoafhfidecppaaDoor
