/- One line after another one. -/
import Derived.Test.YtaihebdjhbnhoaaDoorLnD
namespace Go.Proofs.YtaihebdjhbnhoaaDoor
open Go.RowKit
set_option linter.unusedVariables false
set_option linter.unusedSimpArgs false

theorem line_in (a : Int) : ∃ n : Nat, n < 32 ∧ wrap64 ((IntKind.u64.wrap a).tmod 32) = (n : Int) := by
  rw [IntKind.wrap_u64]
  have h0 : 0 ≤ a % 18446744073709551616 := Int.emod_nonneg _ (by decide)
  rw [Int.tmod_eq_emod_of_nonneg h0]
  have h1 := Int.emod_nonneg (a % 18446744073709551616) (b := 32) (by decide)
  have h2 := Int.emod_lt_of_pos (a % 18446744073709551616) (b := 32) (by decide)
  refine ⟨(a % 18446744073709551616 % 32).toNat, by omega, ?_⟩
  unfold wrap64
  omega
/-- The word with one bit. -/
def one (n : Nat) : Int := ((2 ^ n : Nat) : Int)
theorem one_facts : ∀ n : Nat, n < 32 → 0 ≤ one n ∧ one n ≤ 4294967295 ∧ leastI 0 (one n) = -1 ∧ putI 0 (n : Int) 1 (bitV true) = one n ∧ leastI (one n) (one n) = (n : Int) ∧ bits .and .u32 (one n) (one n) = one n ∧ leastI (one n) (4294967295 - one n) = -1 ∧ IntKind.u32.wrap (1 * 2 ^ n) = one n ∧ IntKind.u32.wrap (2 ^ n) = one n ∧ bits .xor .u32 IntKind.u32.max (one n) = 4294967295 - one n := by decide +kernel
theorem e_all (b : Nat) (h m : Int) (w : World) (hA : LnAt w b h m) : Calls Tryd.prog 7 #[.pointer (some ⟨b, 0, none⟩), .int .u32 0] w fun e w' => e = .returned (.tuple #[]) ∧ LnAt w' b 0 m ∧ But b w w' := all_live b h m w hA 0
theorem e_store4 (b : Nat) (h m v : Int) (w : World) (hA : LnAt w b h m) (h0 : 0 ≤ h) (h1 : h ≤ 4294967295) (m0 : 0 ≤ m) (m1 : m ≤ 4294967295) : Calls Tryd.prog 8 #[.pointer (some ⟨b, 0, none⟩), .int .u32 4, .int .u32 v] w fun e w' => e = .returned (.int .i64 0) ∧ LnAt w' b h v ∧ But b w w' := store_live b h m w hA h0 h1 m0 m1 4 v (by decide) (by decide)
theorem e_out0 {n : Nat} (hn : n < 32) (b : Nat) (w : World) (hA : LnAt w b 0 (one n)) (hT : Tab w) : Calls Tryd.prog 9 #[.pointer (some ⟨b, 0, none⟩)] w fun e w' => e = .returned (.bool false) ∧ Below w.heap.size w w' := by
  obtain ⟨o0, o1, f1, f2, f3, f4, f5, f6, f7, f8⟩ := one_facts n hn
  have q := out_live b 0 (one n) w hA (by omega) (by omega) (by omega) (by omega) hT
  rw [f1, show decide ((0 : Int) ≤ -1) = false from rfl] at q
  exact q
theorem e_out1 {n : Nat} (hn : n < 32) (b : Nat) (w : World) (hA : LnAt w b (one n) (one n)) (hT : Tab w) : Calls Tryd.prog 9 #[.pointer (some ⟨b, 0, none⟩)] w fun e w' => e = .returned (.bool true) ∧ Below w.heap.size w w' := by
  obtain ⟨o0, o1, f1, f2, f3, f4, f5, f6, f7, f8⟩ := one_facts n hn
  have q := out_live b (one n) (one n) w hA (by omega) (by omega) (by omega) (by omega) hT
  rw [f3, show decide ((0 : Int) ≤ (n : Int)) = true from dec_t (by omega)] at q
  exact q
theorem e_out2 {n : Nat} (hn : n < 32) (b : Nat) (w : World) (hA : LnAt w b (one n) (4294967295 - one n)) (hT : Tab w) : Calls Tryd.prog 9 #[.pointer (some ⟨b, 0, none⟩)] w fun e w' => e = .returned (.bool false) ∧ Below w.heap.size w w' := by
  obtain ⟨o0, o1, f1, f2, f3, f4, f5, f6, f7, f8⟩ := one_facts n hn
  have q := out_live b (one n) (4294967295 - one n) w hA (by omega) (by omega) (by omega) (by omega) hT
  rw [f5, show decide ((0 : Int) ≤ -1) = false from rfl] at q
  exact q
theorem e_set {n : Nat} (hn : n < 32) (b : Nat) (w : World) (hA : LnAt w b 0 (one n)) : Calls Tryd.prog 10 #[.pointer (some ⟨b, 0, none⟩), .int .i64 (n : Int), .bool true] w fun e w' => e = .returned (.bool true) ∧ LnAt w' b (one n) (one n) ∧ But b w w' := by
  obtain ⟨o0, o1, f1, f2, f3, f4, f5, f6, f7, f8⟩ := one_facts n hn
  have q := set_in b 0 (one n) w hA (by omega) (by omega) (by omega) (by omega) (n : Int) true (by omega) (by omega)
  rw [f2] at q
  exact q
theorem e_least {n : Nat} (hn : n < 32) (b : Nat) (w : World) (hA : LnAt w b (one n) (one n)) (hT : Tab w) : Calls Tryd.prog 11 #[.pointer (some ⟨b, 0, none⟩)] w fun e w' => e = .returned (.int .i64 (n : Int)) ∧ Below w.heap.size w w' := by
  obtain ⟨o0, o1, f1, f2, f3, f4, f5, f6, f7, f8⟩ := one_facts n hn
  have q := least_live b (one n) (one n) w hA (by omega) (by omega) (by omega) (by omega) hT
  rw [f3] at q
  exact q
theorem e_load8 {n : Nat} (hn : n < 32) (b : Nat) (w : World) (hA : LnAt w b (one n) (one n)) : Calls Tryd.prog 12 #[.pointer (some ⟨b, 0, none⟩), .int .u32 8] w fun e w' => e = .returned (.tuple #[.int .u32 (one n), .int .i64 0]) ∧ Below w.heap.size w w' := by
  obtain ⟨o0, o1, f1, f2, f3, f4, f5, f6, f7, f8⟩ := one_facts n hn
  have q := load_live b (one n) (one n) w hA (by omega) (by omega) (by omega) (by omega) 8 (by decide) (by decide)
  rw [show loadL (one n) (one n) 8 = (bits .and .u32 (one n) (one n), 0) from rfl, f4] at q
  exact q
set_option maxHeartbeats 8000000 in
set_option maxRecDepth 100000 in
theorem LinesEach_walk (a : Option Addr) (len cap : Nat) (zs : List Int) (W : World) (hT : Tab W) (_ : len ≤ 9223372036854775807) (hz : 0 < len → ∃ p, a = some p ∧ p.block < W.heap.size ∧ ∀ k, k < len → W.cell? (p.add k) = some (.int .i64 (zs.getD k 0))) (_ : ∀ k, -9223372036854775808 ≤ zs.getD k 0 ∧ zs.getD k 0 ≤ 9223372036854775807) :
    Calls Tryd.prog 3 #[.slice a len cap] W fun e w' => e = .returned (.bool true) ∧ Below W.heap.size W w' := by
  have HT := Lib.hid hT
  have HZ := Lib.hid hz
  clear hT hz
  go_enter Tryd.func3, Tryd.ntmps3
  go_upto_region 2 with (go_at_call 6; refine (new_any _).mono ?_; rintro e w1 ⟨b, rfl, hb, hA, hB⟩)
  have HA1 := Lib.hid hA
  have HB1 := Lib.hid hB
  clear hA hB
  go_wp2_with fail
  go_loopw [4] (fun i wr => ∃ (k : Nat) (h m : Int), k ≤ 20 ∧ i = .int .i64 k ∧ 0 ≤ h ∧ h ≤ 4294967295 ∧ 0 ≤ m ∧ m ≤ 4294967295 ∧ LnAt wr b h m ∧ Below W.heap.size W wr) (fun i _ => 20 - (intOf i).toNat)
  case atStart => exact ⟨0, 0, 0, by omega, rfl, by omega, by omega, by omega, by omega, HA1.out, HB1.out⟩
  case round =>
    clear HA1 HB1
    clear w1
    obtain ⟨k, h, m, hk, rfl, h0, h1, m0, m1, hA, hB⟩ := hrel
    rename World => w1
    have HA1 := Lib.hid hA
    have HB1 := Lib.hid hB
    clear hA hB
    by_cases hlt : k < len ∧ k < 20
    · obtain ⟨l1, l2⟩ := hlt
      obtain ⟨q, rfl, hq, hcl⟩ := HZ.out (by omega)
      obtain ⟨x, hxe⟩ : ∃ x, zs.getD k 0 = x := ⟨_, rfl⟩
      have c0 := (HB1.out.cell (p := q.add k) (by rw [addr_add_block]; exact hq)).trans (hcl k l1)
      rw [hxe] at c0
      have g1 : decide ((k : Int) < (len : Int)) = true := dec_t (by omega)
      have g1' : decide (k < len) = true := dec_t l1
      have g2 : decide ((k : Int) < 20) = true := dec_t (by omega)
      obtain ⟨n, hn, hne⟩ := line_in x
      obtain ⟨o0, o1, f1, f2, f3, f4, f5, f6, f7, f8⟩ := one_facts n hn
      clear hxe hcl hq f1 f2 f3 f4 f5
      go_wp2_with fail
      refine (e_all b h m w1 HA1.out).mono ?_
      rintro e w2 ⟨rfl, hA2, hF2⟩
      have HA2 := Lib.hid hA2
      have HB2 := Lib.hid (But.below HB1.out hF2 hb HB1.out.size)
      clear hA2 hF2
      clear HA1 HB1
      go_wp2_with fail
      refine (e_store4 b 0 m (one n) w2 HA2.out (by decide) (by decide) m0 m1).mono ?_
      rintro e w3 ⟨rfl, hA3, hF3⟩
      have HA3 := Lib.hid hA3
      have HB3 := Lib.hid (But.below HB2.out hF3 hb HB2.out.size)
      clear hA3 hF3
      clear HA2 HB2
      go_wp2_with fail
      refine (e_out0 hn b w3 HA3.out (HT.out.ext HB3.out)).mono ?_
      rintro e w4 ⟨rfl, hF4⟩
      have HA4 := Lib.hid (LnAt.ext HA3.out hF4)
      have HB4 := Lib.hid (below_then HB3.out hF4)
      clear hF4
      clear HA3 HB3
      go_wp2_with fail
      refine (e_set hn b w4 HA4.out).mono ?_
      rintro e w5 ⟨rfl, hA5, hF5⟩
      have HA5 := Lib.hid hA5
      have HB5 := Lib.hid (But.below HB4.out hF5 hb HB4.out.size)
      clear hA5 hF5
      clear HA4 HB4
      go_wp2_with fail
      refine (e_out1 hn b w5 HA5.out (HT.out.ext HB5.out)).mono ?_
      rintro e w6 ⟨rfl, hF6⟩
      have HA6 := Lib.hid (LnAt.ext HA5.out hF6)
      have HB6 := Lib.hid (below_then HB5.out hF6)
      clear hF6
      clear HA5 HB5
      go_wp2_with fail
      refine (e_least hn b w6 HA6.out (HT.out.ext HB6.out)).mono ?_
      rintro e w7 ⟨rfl, hF7⟩
      have HA7 := Lib.hid (LnAt.ext HA6.out hF7)
      have HB7 := Lib.hid (below_then HB6.out hF7)
      clear hF7
      clear HA6 HB6
      go_wp2_with fail
      refine (e_load8 hn b w7 HA7.out).mono ?_
      rintro e w8 ⟨rfl, hF8⟩
      have HA8 := Lib.hid (LnAt.ext HA7.out hF8)
      have HB8 := Lib.hid (below_then HB7.out hF8)
      clear hF8
      clear HA7 HB7
      go_wp2_with fail
      refine (e_store4 b (one n) (one n) (4294967295 - one n) w8 HA8.out o0 o1 o0 o1).mono ?_
      rintro e w9 ⟨rfl, hA9, hF9⟩
      have HA9 := Lib.hid hA9
      have HB9 := Lib.hid (But.below HB8.out hF9 hb HB8.out.size)
      clear hA9 hF9
      clear HA8 HB8
      go_wp2_with fail
      refine (e_out2 hn b w9 HA9.out (HT.out.ext HB9.out)).mono ?_
      rintro e w10 ⟨rfl, hF10⟩
      have HA10 := Lib.hid (LnAt.ext HA9.out hF10)
      have HB10 := Lib.hid (below_then HB9.out hF10)
      clear hF10
      clear HA9 HB9
      go_wp2_with fail
      go_roundw
      case measure => simp [intOf]; omega
      case rel => exact ⟨k + 1, one n, 4294967295 - one n, by omega, by simp, o0, o1, by omega, by omega, HA10.out, HB10.out⟩
    · have hend : k < len → ¬ k < 20 := fun h h2 => hlt ⟨h, h2⟩
      by_cases h1 : k < len
      · have g1 : decide ((k : Int) < (len : Int)) = true := dec_t (by omega)
        have g1' : decide (k < len) = true := dec_t h1
        have g2 : decide ((k : Int) < 20) = false := dec_f (by have := hend h1; omega)
        go_wp2_with fail
        refine (known04 _ (HT.out.ext HB1.out)).mono ?_
        rintro e w2 ⟨rfl, hb2⟩
        go_wp2_with fail
        go_ret
        exact ⟨rfl, below_then HB1.out hb2⟩
      · have gl : decide ((k : Int) < (len : Int)) = false := dec_f (by omega)
        have gl' : decide (k < len) = false := dec_f h1
        go_wp2_with fail
        refine (known04 _ (HT.out.ext HB1.out)).mono ?_
        rintro e w2 ⟨rfl, hb2⟩
        go_wp2_with fail
        go_ret
        exact ⟨rfl, below_then HB1.out hb2⟩
end Go.Proofs.YtaihebdjhbnhoaaDoor
