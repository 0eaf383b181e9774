/- The buckets of a histogram: Of and Ends. -/
import Derived.Test.YtaihebdjhbnhoaaW0
import Derived.Test.YtaihebdjhbnhoaaProg
import Derived.Test.YtaihebdjhbnhoaaBut
import Derived.Lib.BitFns
import Derived.Lib.Walk
import Derived.Lib.Small
import Derived.Deep.Light
namespace Go.Proofs.Ytaihebdjhbnhoaa
open Go.RowKit
set_option linter.unusedVariables false
set_option linter.unusedSimpArgs false
set_option maxRecDepth 100000 in
theorem byte_size : (Lib.len8tab.size : Int) = 256 := by
  have : Lib.len8tab.size = 256 := by decide
  omega
theorem byte_add (k a b : Nat) (hk : k ≤ 56) (ha : a ≤ 8) (hb : b = k + a) : wrap64 ((k : Int) + wrap64 (a : Int)) = (b : Int) := by
  unfold wrap64
  omega
theorem byte_two (a : Nat) (ha : a ≤ 8) : wrap64 (wrap64 (a : Int)) = (a : Int) := by
  unfold wrap64
  omega
theorem byte_one (a : Nat) (ha : a ≤ 8) : wrap64 (a : Int) = (a : Int) := by
  unfold wrap64
  omega
theorem byte8 (y : Int) (h : y.toNat < Lib.len8tab.size) : ((Lib.len8tab[y.toNat]'h).toNat : Int) = Lib.len8 y := by
  unfold Lib.len8
  rw [getElem?_pos Lib.len8tab y.toNat h]
  rfl
set_option maxHeartbeats 32000000 in
set_option maxRecDepth 100000 in
theorem len64_any (x : Int) (w : World) (h0 : 0 ≤ x) (h1 : x ≤ 18446744073709551615) :
    Calls Try.prog 44 #[.int .u64 x] w fun e w' => e = .returned (.int .i64 (Lib.bitLen x.toNat)) ∧ w' = w := by
  go_enter Try.func44, Try.ntmps44
  go_wp2
  all_goals first
    | (go_ret; refine ⟨congrArg Ending.returned (congrArg (Value.int IntKind.i64) ?_), rfl⟩; go_light)
    | (exfalso
       go_light
       have hs := byte_size
       omega)
  all_goals first
    | (rw [byte8 (x / 4294967296 / 65536 / 256) _, Lib.len8_of (x / 4294967296 / 65536 / 256) (by omega) (by omega)]
       have e : (x / 4294967296 / 65536 / 256).toNat = x.toNat / 72057594037927936 := by omega
       have l := Lib.bitLen_le8' (x / 4294967296 / 65536 / 256) (by omega) (by omega)
       have s := Lib.bitLen_shift56 x.toNat (by omega) (by omega)
       rw [e] at l ⊢
       exact byte_add 56 _ _ (by decide) l s)
    | (rw [byte8 (x / 4294967296 / 65536) _, Lib.len8_of (x / 4294967296 / 65536) (by omega) (by omega)]
       have e : (x / 4294967296 / 65536).toNat = x.toNat / 281474976710656 := by omega
       have l := Lib.bitLen_le8' (x / 4294967296 / 65536) (by omega) (by omega)
       have s := Lib.bitLen_shift48 x.toNat (by omega) (by omega)
       rw [e] at l ⊢
       exact byte_add 48 _ _ (by decide) l s)
    | (rw [byte8 (x / 4294967296 / 256) _, Lib.len8_of (x / 4294967296 / 256) (by omega) (by omega)]
       have e : (x / 4294967296 / 256).toNat = x.toNat / 1099511627776 := by omega
       have l := Lib.bitLen_le8' (x / 4294967296 / 256) (by omega) (by omega)
       have s := Lib.bitLen_shift40 x.toNat (by omega) (by omega)
       rw [e] at l ⊢
       exact byte_add 40 _ _ (by decide) l s)
    | (rw [byte8 (x / 4294967296) _, Lib.len8_of (x / 4294967296) (by omega) (by omega)]
       have e : (x / 4294967296).toNat = x.toNat / 4294967296 := by omega
       have l := Lib.bitLen_le8' (x / 4294967296) (by omega) (by omega)
       have s := Lib.bitLen_shift32 x.toNat (by omega) (by omega)
       rw [e] at l ⊢
       exact byte_add 32 _ _ (by decide) l s)
    | (rw [byte8 (x / 65536 / 256) _, Lib.len8_of (x / 65536 / 256) (by omega) (by omega)]
       have e : (x / 65536 / 256).toNat = x.toNat / 16777216 := by omega
       have l := Lib.bitLen_le8' (x / 65536 / 256) (by omega) (by omega)
       have s := Lib.bitLen_shift24 x.toNat (by omega) (by omega)
       rw [e] at l ⊢
       exact byte_add 24 _ _ (by decide) l s)
    | (rw [byte8 (x / 65536) _, Lib.len8_of (x / 65536) (by omega) (by omega)]
       have e : (x / 65536).toNat = x.toNat / 65536 := by omega
       have l := Lib.bitLen_le8' (x / 65536) (by omega) (by omega)
       have s := Lib.bitLen_shift16 x.toNat (by omega) (by omega)
       rw [e] at l ⊢
       exact byte_add 16 _ _ (by decide) l s)
    | (rw [byte8 (x / 256) _, Lib.len8_of (x / 256) (by omega) (by omega)]
       have e : (x / 256).toNat = x.toNat / 256 := by omega
       have l := Lib.bitLen_le8' (x / 256) (by omega) (by omega)
       have s := Lib.bitLen_shift8 x.toNat (by omega) (by omega)
       rw [e] at l ⊢
       exact byte_add 8 _ _ (by decide) l s)
    | (rw [byte8 (x) _, Lib.len8_of (x) (by omega) (by omega)]
       have e : (x).toNat = x.toNat := by omega
       have l := Lib.bitLen_le8' (x) (by omega) (by omega)
       rw [e] at l ⊢
       first | exact byte_two _ l | exact byte_add 0 _ _ (by decide) l (by omega) | exact byte_one _ l)
set_option maxHeartbeats 4000000 in
set_option maxRecDepth 100000 in
theorem of_any (x : Int) (w : World) (h0 : 0 ≤ x) (h1 : x ≤ 18446744073709551615) :
    Calls Try.prog 11 #[.int .u64 x] w fun e w' => e = .returned (.int .i64 (Lib.bitLen x.toNat)) ∧ w' = w := by
  go_enter Try.func11, Try.ntmps11
  go_wp2_with (go_at_call 44; refine (len64_any x _ h0 h1).mono ?_; rintro e w' ⟨rfl, rfl⟩)
  go_ret
  exact ⟨rfl, rfl⟩
def maskI (n : Int) : Int := if 64 ≤ n then 18446744073709551615 else 2 ^ n.toNat - 1
theorem wrap_pow (j : Nat) (h : j < 64) : IntKind.u64.wrap (IntKind.u64.wrap (2 ^ j) - 1) = 2 ^ j - 1 := by
  have h1 : (1 : Int) ≤ 2 ^ j := by
    have := Nat.one_le_two_pow (n := j); exact_mod_cast this
  have h2 : (2 : Int) ^ j ≤ 2 ^ 63 := by
    have := Nat.pow_le_pow_right (n := 2) (by decide) (show j ≤ 63 by omega); exact_mod_cast this
  rw [IntKind.wrap_u64, IntKind.wrap_u64]
  omega
set_option maxHeartbeats 1000000 in
theorem mask_any (n : Int) (w : World) :
    Calls Try.prog 45 #[.int .i64 n] w fun e w' => e = .returned (.int .u64 (maskI n)) ∧ Below w.heap.size w w' := by
  by_cases h : 64 ≤ n
  · go_enter Try.func45, Try.ntmps45
    go_wp2
    go_ret
    exact ⟨by simp [maskI, h], Below.refl _ _⟩
  · by_cases hn : 0 ≤ n
    · have e1 := wrap_pow n.toNat (by omega)
      go_enter Try.func45, Try.ntmps45
      go_wp2
      go_ret
      exact ⟨ret_int (show _ = maskI n by rw [show max n 0 = n by omega, e1, maskI, if_neg (by omega)]), Below.refl _ _⟩
    · go_enter Try.func45, Try.ntmps45
      go_wp2
      go_ret
      exact ⟨ret_int (show _ = maskI n by rw [show max n 0 = 0 by omega, maskI, if_neg (by omega), show n.toNat = 0 by omega]; rfl), Below.refl _ _⟩
def endsI (k : Int) : Int × Int × Bool := if k < 0 ∨ 65 ≤ k then (0, 0, false) else if k = 0 then (0, 0, true) else (2 ^ (k - 1).toNat, maskI k, true)
theorem wrap_pow1 (j : Nat) (h : j < 64) : IntKind.u64.wrap (2 ^ j) = 2 ^ j := by
  have h1 : (1 : Int) ≤ 2 ^ j := by
    have := Nat.one_le_two_pow (n := j); exact_mod_cast this
  have h2 : (2 : Int) ^ j ≤ 2 ^ 63 := by
    have := Nat.pow_le_pow_right (n := 2) (by decide) (show j ≤ 63 by omega); exact_mod_cast this
  rw [IntKind.wrap_u64]
  omega
set_option maxHeartbeats 4000000 in
set_option maxRecDepth 100000 in
theorem ends_any (k : Int) (w : World) (k0 : -9223372036854775808 ≤ k) (k1 : k ≤ 9223372036854775807) :
    Calls Try.prog 12 #[.int .i64 k] w fun e w' => e = .returned (.tuple #[.int .u64 (endsI k).1, .int .u64 (endsI k).2.1, .bool (endsI k).2.2]) ∧ Below w.heap.size w w' := by
  by_cases h1 : k < 0
  · rw [endsI, if_pos (Or.inl h1)]
    go_enter Try.func12, Try.ntmps12
    go_wp2
    refine bodyPost_ret (by simp [results, Try.results12, go_sem]; rfl) rfl ?_
    exact ⟨rfl, Below.refl _ _⟩
  · by_cases h2 : 65 ≤ k
    · rw [endsI, if_pos (Or.inr h2)]
      go_enter Try.func12, Try.ntmps12
      go_wp2
      refine bodyPost_ret (by simp [results, Try.results12, go_sem]; rfl) rfl ?_
      exact ⟨rfl, Below.refl _ _⟩
    · by_cases h3 : k = 0
      · subst h3
        go_enter Try.func12, Try.ntmps12
        go_wp2
        refine bodyPost_ret (by simp [results, Try.results12, go_sem]; rfl) rfl ?_
        exact ⟨rfl, Below.refl _ _⟩
      · rw [endsI, if_neg (by omega), if_neg h3]
        have hw := wrap_pow1 (k - 1).toNat (by omega)
        go_enter Try.func12, Try.ntmps12
        refine wp_start (w := w) ?_
        intro x
        go_wp2_with fail
        refine wp_region_ext _ (by kernel_rfl) (by kernel_rfl) ?_
        repeat (go_big_quiet_step ((go_at_call 45; refine Ext.call (mask_any _ _))))
        refine wpQuiet_nil ?_
        rintro _ ⟨y, rfl⟩
        go_wp2_with fail
        refine bodyPost_ret (by simp [results, Try.results12, go_sem]; rfl) rfl ?_
        exact ⟨by rw [show k.toNat - 1 = (k - 1).toNat by omega, hw], y.ok⟩
end Go.Proofs.Ytaihebdjhbnhoaa
