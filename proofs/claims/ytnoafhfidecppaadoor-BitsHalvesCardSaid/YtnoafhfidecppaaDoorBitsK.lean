/- Halves, sums, differences, masks, words with a sign: the walk of the law BitsHalves. -/
import Derived.Test.YtnoafhfidecppaaDoorBitsH
import Derived.Laws.Externs
import Derived.Shelf.Spec.BitsCarry
namespace Go.Proofs.YtnoafhfidecppaaDoor
open Go.RowKit
set_option linter.unusedVariables false
set_option linter.unusedSimpArgs false
theorem add64_run (x y s c : Int) (x0 : 0 ≤ x) (y0 : 0 ≤ y) (hs : (x + y) % 18446744073709551616 = s) (hc : (x + y) / 18446744073709551616 = c) (w : World) :
    (callFunc 58 #[.int .u64 x, .int .u64 y, .int .u64 0]).run Tryd.prog w = .ok (.value (.tuple #[.int .u64 s, .int .u64 c])) w := by
  rw [run_callFunc_extern Tryd.func58 (by kernel_rfl) (by kernel_rfl) (by kernel_rfl) (e := add64Entry) (by kernel_rfl), run_add64 x y 0 x0 y0 (by omega) (by omega)]
  simp only [Result.andThen, Int.add_zero, hs, hc]
theorem sub64_run (x y s c : Int) (x0 : 0 ≤ x) (y0 : 0 ≤ y) (x1 : x ≤ 18446744073709551615) (y1 : y ≤ 18446744073709551615) (hs : (x - y) % 18446744073709551616 = s) (hc : (if x < y then 1 else 0) = c) (w : World) :
    (callFunc 59 #[.int .u64 x, .int .u64 y, .int .u64 0]).run Tryd.prog w = .ok (.value (.tuple #[.int .u64 s, .int .u64 c])) w := by
  obtain ⟨X, rfl⟩ := Int.eq_ofNat_of_zero_le x0
  obtain ⟨Y, rfl⟩ := Int.eq_ofNat_of_zero_le y0
  have hr := run_sub64 (P := Tryd.prog) X Y 0 (by omega) w
  rw [run_callFunc_extern Tryd.func59 (by kernel_rfl) (by kernel_rfl) (by kernel_rfl) (e := sub64Entry) (by kernel_rfl)]
  refine (congrArg (fun r : Result Value => r.andThen _) hr).trans ?_
  have e1 : (((X + 18446744073709551616 - Y - 0) % 18446744073709551616 : Nat) : Int) = s := by omega
  have e2 : (((if X < Y + 0 then 1 else 0 : Nat)) : Int) = c := by
    rw [← hc]
    by_cases h : X < Y
    · rw [if_pos (by omega), if_pos (by omega)]; rfl
    · rw [if_neg (by omega), if_neg (by omega)]; rfl
  rw [e1, e2]
  rfl
def addI (a b : Int) : Int := if a + b ≤ 18446744073709551615 then a + b else 18446744073709551615
def subI (a b : Int) : Int := if a < b then 0 else a - b
set_option maxHeartbeats 4000000 in
set_option maxRecDepth 100000 in
theorem add_any (a b : Int) (w : World) (h0 : 0 ≤ a) (h1 : a ≤ 18446744073709551615) (k0 : 0 ≤ b) (k1 : b ≤ 18446744073709551615) :
    Calls Tryd.prog 30 #[.int .u64 a, .int .u64 b] w fun e w' => e = .returned (.int .u64 (addI a b)) ∧ Below w.heap.size w w' := by
  by_cases h : a + b ≤ 18446744073709551615
  · have e1 : a + b = addI a b := by rw [addI, if_pos h]
    have E1 := Lib.hid e1
    clear e1
    have ha := fun w => add64_run a b (a + b) 0 h0 k0 (by omega) (by omega) w
    go_enter Tryd.func30, Tryd.ntmps30
    go_wp2_with (simp only [ha])
    go_ret
    exact ⟨ret_int E1.out, Below.refl _ _⟩
  · have e1 : 18446744073709551615 = addI a b := by rw [addI, if_neg h]
    have E1 := Lib.hid e1
    clear e1
    have ha := fun w => add64_run a b (a + b - 18446744073709551616) 1 h0 k0 (by omega) (by omega) w
    go_enter Tryd.func30, Tryd.ntmps30
    go_wp2_with (simp only [ha])
    go_ret
    exact ⟨ret_int E1.out, Below.refl _ _⟩
set_option maxHeartbeats 4000000 in
set_option maxRecDepth 100000 in
theorem radd_any (a b : Int) (w : World) (h0 : 0 ≤ a) (h1 : a ≤ 18446744073709551615) (k0 : 0 ≤ b) (k1 : b ≤ 18446744073709551615) :
    Calls Tryd.prog 31 #[.int .u64 a, .int .u64 b] w fun e w' => e = .returned (.int .u64 (addI a b)) ∧ Below w.heap.size w w' := by
  by_cases h : a + b ≤ 18446744073709551615
  · have e1 : a + b = addI a b := by rw [addI, if_pos h]
    have E1 := Lib.hid e1
    clear e1
    have g1 : decide (18446744073709551615 - b < a) = false := by simp; omega
    go_enter Tryd.func31, Tryd.ntmps31
    go_wp2
    go_ret
    exact ⟨ret_int E1.out, Below.refl _ _⟩
  · have e1 : 18446744073709551615 = addI a b := by rw [addI, if_neg h]
    have E1 := Lib.hid e1
    clear e1
    have g1 : decide (18446744073709551615 - b < a) = true := by simp; omega
    go_enter Tryd.func31, Tryd.ntmps31
    go_wp2
    go_ret
    exact ⟨ret_int E1.out, Below.refl _ _⟩
set_option maxHeartbeats 4000000 in
set_option maxRecDepth 100000 in
theorem sub_any (a b : Int) (w : World) (h0 : 0 ≤ a) (h1 : a ≤ 18446744073709551615) (k0 : 0 ≤ b) (k1 : b ≤ 18446744073709551615) :
    Calls Tryd.prog 32 #[.int .u64 a, .int .u64 b] w fun e w' => e = .returned (.int .u64 (subI a b)) ∧ Below w.heap.size w w' := by
  by_cases h : a < b
  · have e1 : 0 = subI a b := by rw [subI, if_pos h]
    have E1 := Lib.hid e1
    clear e1
    have ha := fun w => sub64_run a b (a - b + 18446744073709551616) 1 h0 k0 h1 k1 (by omega) (by rw [if_pos h]) w
    go_enter Tryd.func32, Tryd.ntmps32
    go_wp2_with (simp only [ha])
    go_ret
    exact ⟨ret_int E1.out, Below.refl _ _⟩
  · have e1 : a - b = subI a b := by rw [subI, if_neg h]
    have E1 := Lib.hid e1
    clear e1
    have ha := fun w => sub64_run a b (a - b) 0 h0 k0 h1 k1 (by omega) (by rw [if_neg h]) w
    go_enter Tryd.func32, Tryd.ntmps32
    go_wp2_with (simp only [ha])
    go_ret
    exact ⟨ret_int E1.out, Below.refl _ _⟩
set_option maxHeartbeats 4000000 in
set_option maxRecDepth 100000 in
theorem rsub_any (a b : Int) (w : World) (h0 : 0 ≤ a) (h1 : a ≤ 18446744073709551615) (k0 : 0 ≤ b) (k1 : b ≤ 18446744073709551615) :
    Calls Tryd.prog 33 #[.int .u64 a, .int .u64 b] w fun e w' => e = .returned (.int .u64 (subI a b)) ∧ Below w.heap.size w w' := by
  by_cases h : a < b
  · have e1 : 0 = subI a b := by rw [subI, if_pos h]
    have E1 := Lib.hid e1
    clear e1
    have g1 : decide (a < b) = true := by simpa using h
    go_enter Tryd.func33, Tryd.ntmps33
    go_wp2
    go_ret
    exact ⟨ret_int E1.out, Below.refl _ _⟩
  · have e1 : a - b = subI a b := by rw [subI, if_neg h]
    have E1 := Lib.hid e1
    clear e1
    have g1 : decide (a < b) = false := by simpa using h
    go_enter Tryd.func33, Tryd.ntmps33
    go_wp2
    go_ret
    exact ⟨ret_int E1.out, Below.refl _ _⟩
set_option maxHeartbeats 4000000 in
set_option maxRecDepth 100000 in
theorem lo_any (n : Int) (w : World) (h0 : 0 ≤ n) (h1 : n ≤ 18446744073709551615) :
    Calls Tryd.prog 24 #[.int .u64 n] w fun e w' => e = .returned (.int .u32 (n % 4294967296)) ∧ Below w.heap.size w w' := by
  have e1 : IntKind.u32.wrap n = n % 4294967296 := by rw [IntKind.wrap_u32]
  go_enter Tryd.func24, Tryd.ntmps24
  go_wp2
  go_ret
  exact ⟨rfl, Below.refl _ _⟩
set_option maxHeartbeats 4000000 in
set_option maxRecDepth 100000 in
theorem hi_any (n : Int) (w : World) (h0 : 0 ≤ n) (h1 : n ≤ 18446744073709551615) :
    Calls Tryd.prog 25 #[.int .u64 n] w fun e w' => e = .returned (.int .u32 (n / 4294967296)) ∧ Below w.heap.size w w' := by
  have e1 : IntKind.u32.wrap (n / 4294967296) = n / 4294967296 := by rw [IntKind.wrap_u32]; omega
  go_enter Tryd.func25, Tryd.ntmps25
  go_wp2
  go_ret
  exact ⟨rfl, Below.refl _ _⟩
set_option maxHeartbeats 4000000 in
set_option maxRecDepth 100000 in
theorem rlo_any (n : Int) (w : World) (h0 : 0 ≤ n) (h1 : n ≤ 18446744073709551615) :
    Calls Tryd.prog 26 #[.int .u64 n] w fun e w' => e = .returned (.int .u32 (n % 4294967296)) ∧ Below w.heap.size w w' := by
  go_enter Tryd.func26, Tryd.ntmps26
  go_wp2
  go_ret
  exact ⟨rfl, Below.refl _ _⟩
set_option maxHeartbeats 4000000 in
set_option maxRecDepth 100000 in
theorem rhi_any (n : Int) (w : World) (h0 : 0 ≤ n) (h1 : n ≤ 18446744073709551615) :
    Calls Tryd.prog 27 #[.int .u64 n] w fun e w' => e = .returned (.int .u32 (n / 4294967296)) ∧ Below w.heap.size w w' := by
  go_enter Tryd.func27, Tryd.ntmps27
  go_wp2
  go_ret
  exact ⟨rfl, Below.refl _ _⟩
set_option maxHeartbeats 4000000 in
set_option maxRecDepth 100000 in
theorem rjoin_any (h l : Int) (w : World) (h0 : 0 ≤ h) (h1 : h ≤ 4294967295) (l0 : 0 ≤ l) (l1 : l ≤ 4294967295) :
    Calls Tryd.prog 29 #[.int .u32 h, .int .u32 l] w fun e w' => e = .returned (.int .u64 (h * 4294967296 + l)) ∧ Below w.heap.size w w' := by
  go_enter Tryd.func29, Tryd.ntmps29
  go_wp2
  go_ret
  exact ⟨rfl, Below.refl _ _⟩
set_option maxHeartbeats 4000000 in
set_option maxRecDepth 100000 in
theorem rsigned_any (n : Int) (w : World) (h0 : 0 ≤ n) (h1 : n ≤ 4294967295) :
    Calls Tryd.prog 37 #[.int .u32 n] w fun e w' => e = .returned (.int .i64 (signedI n)) ∧ Below w.heap.size w w' := by
  by_cases h : n < 2147483648
  · have e1 : n = signedI n := by rw [signedI, if_pos h]
    have E1 := Lib.hid e1
    clear e1
    have g1 : decide (2147483648 ≤ n) = false := by simp; omega
    go_enter Tryd.func37, Tryd.ntmps37
    go_wp2
    go_ret
    exact ⟨ret_int E1.out, Below.refl _ _⟩
  · have e1 : n - 4294967296 = signedI n := by rw [signedI, if_neg h]
    have E1 := Lib.hid e1
    clear e1
    have g1 : decide (2147483648 ≤ n) = true := by simp; omega
    go_enter Tryd.func37, Tryd.ntmps37
    go_wp2
    go_ret
    exact ⟨ret_int E1.out, Below.refl _ _⟩
theorem mask_next (j : Nat) (h : j < 64) : 0 ≤ (2 : Int) ^ j - 1 ∧ (2 : Int) * (2 ^ j - 1) + 1 = 2 ^ (j + 1) - 1 ∧ (2 : Int) ^ (j + 1) - 1 ≤ 18446744073709551615 := by
  have h1 : (1 : Int) ≤ 2 ^ j := by
    have := Nat.one_le_two_pow (n := j); exact_mod_cast this
  have h2 : (2 : Int) ^ j ≤ 2 ^ 63 := by
    have := Nat.pow_le_pow_right (n := 2) (by decide) (show j ≤ 63 by omega); exact_mod_cast this
  rw [show (2 : Int) ^ (j + 1) = 2 * 2 ^ j by rw [Int.pow_succ]; omega]
  omega
set_option maxHeartbeats 4000000 in
set_option maxRecDepth 100000 in
theorem rmask_any (n : Int) (w : World) :
    Calls Tryd.prog 35 #[.int .i64 n] w fun e w' => e = .returned (.int .u64 (maskI n)) ∧ Below w.heap.size w w' := by
  go_enter Tryd.func35, Tryd.ntmps35
  go_wp2
  go_loopg [3, 4] (min n.toNat 64) (fun g m i wr => ∃ (j : Nat), j + g = min n.toNat 64 ∧ m = .int .u64 (2 ^ j - 1) ∧ i = .int .i64 j ∧ wr = w)
  case atStart => exact ⟨0, by omega, by simp, rfl, rfl⟩
  case round =>
    obtain ⟨j, hj, rfl, rfl, rfl⟩ := hrel
    by_cases hlt : (j : Int) < n
    · by_cases hl : j < 64
      · obtain ⟨m0, m1, m2⟩ := mask_next j hl
        have hd1 : decide ((j : Int) < n) = true := by simpa using hlt
        have hd2 : decide ((j : Int) < 64) = true := by simp; omega
        cases gk with
        | zero => omega
        | succ g =>
        go_wp2
        go_roundg g
        case measure => omega
        case rel => exact ⟨j + 1, by omega, by go_num, by go_num, rfl⟩
      · have hd1 : decide ((j : Int) < n) = true := by simpa using hlt
        have hd2 : decide ((j : Int) < 64) = false := by simp; omega
        have e1 : (2 : Int) ^ j - 1 = maskI n := by rw [show j = 64 by omega, maskI, if_pos (by omega)]; rfl
        have E1 := Lib.hid e1
        clear e1
        go_wp2
        go_ret
        exact ⟨ret_int E1.out, Below.refl _ _⟩
    · have hd1 : decide ((j : Int) < n) = false := by simpa using hlt
      have hj2 : n.toNat = j := by omega
      have e1 : (2 : Int) ^ j - 1 = maskI n := by
        rw [maskI]
        split
        · rw [show j = 64 by omega]; rfl
        · rw [hj2]
      have E1 := Lib.hid e1
      clear e1 hj hj2
      go_wp2
      go_ret
      exact ⟨ret_int E1.out, Below.refl _ _⟩
set_option maxHeartbeats 4000000 in
set_option maxRecDepth 100000 in
theorem BitsHalves_walk (a b n : Int) (w : World) (hT : Tab w) (h0 : 0 ≤ a) (h1 : a ≤ 18446744073709551615) (k0 : 0 ≤ b) (k1 : b ≤ 18446744073709551615)
    (n0 : -9223372036854775808 ≤ n) (n1 : n ≤ 9223372036854775807) :
    Calls Tryd.prog 6 #[.int .u64 a, .int .u64 b, .int .i64 n] w fun e w' => e = .returned (.bool true) ∧ Below w.heap.size w w' := by
  have hja : a / 4294967296 * 4294967296 + a % 4294967296 = a := by omega
  have HT := Lib.hid hT
  clear hT
  go_enter Tryd.func6, Tryd.ntmps6
  refine wp_start ?_
  intro x
  go_wp2_with (first | (go_at_call 10; refine (known01 _ (HT.out.at _)).mono ?_; rintro e wr ⟨rfl, hbr⟩; obtain ⟨y, rfl⟩ := Ext.step _ hbr; clear hbr) | (go_at_call 24; refine (lo_any _ _ (by omega) (by omega)).mono ?_; rintro e wr ⟨rfl, hbr⟩; obtain ⟨y, rfl⟩ := Ext.step _ hbr; clear hbr) | (go_at_call 25; refine (hi_any _ _ (by omega) (by omega)).mono ?_; rintro e wr ⟨rfl, hbr⟩; obtain ⟨y, rfl⟩ := Ext.step _ hbr; clear hbr) | (go_at_call 26; refine (rlo_any _ _ (by omega) (by omega)).mono ?_; rintro e wr ⟨rfl, hbr⟩; obtain ⟨y, rfl⟩ := Ext.step _ hbr; clear hbr) | (go_at_call 27; refine (rhi_any _ _ (by omega) (by omega)).mono ?_; rintro e wr ⟨rfl, hbr⟩; obtain ⟨y, rfl⟩ := Ext.step _ hbr; clear hbr) | (go_at_call 28; refine (join_any _ _ _ (by omega) (by omega) (by omega) (by omega)).mono ?_; rintro e wr ⟨rfl, hbr⟩; obtain ⟨y, rfl⟩ := Ext.step _ hbr; clear hbr) | (go_at_call 29; refine (rjoin_any _ _ _ (by omega) (by omega) (by omega) (by omega)).mono ?_; rintro e wr ⟨rfl, hbr⟩; obtain ⟨y, rfl⟩ := Ext.step _ hbr; clear hbr) | (go_at_call 30; refine (add_any _ _ _ h0 h1 k0 k1).mono ?_; rintro e wr ⟨rfl, hbr⟩; obtain ⟨y, rfl⟩ := Ext.step _ hbr; clear hbr) | (go_at_call 31; refine (radd_any _ _ _ h0 h1 k0 k1).mono ?_; rintro e wr ⟨rfl, hbr⟩; obtain ⟨y, rfl⟩ := Ext.step _ hbr; clear hbr) | (go_at_call 32; refine (sub_any _ _ _ h0 h1 k0 k1).mono ?_; rintro e wr ⟨rfl, hbr⟩; obtain ⟨y, rfl⟩ := Ext.step _ hbr; clear hbr) | (go_at_call 33; refine (rsub_any _ _ _ h0 h1 k0 k1).mono ?_; rintro e wr ⟨rfl, hbr⟩; obtain ⟨y, rfl⟩ := Ext.step _ hbr; clear hbr) | (go_at_call 34; refine (mask_any _ _).mono ?_; rintro e wr ⟨rfl, hbr⟩; obtain ⟨y, rfl⟩ := Ext.step _ hbr; clear hbr) | (go_at_call 35; refine (rmask_any _ _).mono ?_; rintro e wr ⟨rfl, hbr⟩; obtain ⟨y, rfl⟩ := Ext.step _ hbr; clear hbr) | (go_at_call 36; refine (signed_any _ _ (by omega) (by omega)).mono ?_; rintro e wr ⟨rfl, hbr⟩; obtain ⟨y, rfl⟩ := Ext.step _ hbr; clear hbr) | (go_at_call 37; refine (rsigned_any _ _ (by omega) (by omega)).mono ?_; rintro e wr ⟨rfl, hbr⟩; obtain ⟨y, rfl⟩ := Ext.step _ hbr; clear hbr))
  go_ret
  exact ⟨rfl, Ext.ok _⟩
end Go.Proofs.YtnoafhfidecppaaDoor
