/- The program's digits, and what is made of them: digits, Top, Digit, With, Mask: what each call comes to. -/
import Derived.Test.YtnoafhfidecppaaDoorProg
import Derived.Test.YtnoafhfidecppaaDoorW0
namespace Go.Proofs.YtnoafhfidecppaaDoor
open Go.RowKit
set_option linter.unusedVariables false
set_option linter.unusedSimpArgs false

theorem Tryd.infoU64 : (Tryd.prog.info? 22).map (·.size) = some 1 := by kernel_rfl
def dgs (n : Int) : Array Value := #[.int .u64 (n % 64), .int .u64 (n / 64 % 64), .int .u64 (n / 4096 % 64), .int .u64 (n / 262144 % 64), .int .u64 (n / 16777216 % 64), .int .u64 (n / 1073741824 % 64), .int .u64 (n / 68719476736 % 64), .int .u64 (n / 4398046511104 % 64), .int .u64 (n / 281474976710656)]
def dgl (n : Int) : List Int := [n % 64, n / 64 % 64, n / 4096 % 64, n / 262144 % 64, n / 16777216 % 64, n / 1073741824 % 64, n / 68719476736 % 64, n / 4398046511104 % 64, n / 281474976710656]
theorem dgs_eq (n : Int) : dgs n = ((dgl n).map (Value.int .u64)).toArray := rfl
theorem eq_dgs (a b : Int) (w : World) : (binOp .eql 64 (.agg (dgs a)) (.agg (dgs b))).run Tryd.prog w = .ok (.bool (dgl a == dgl b)) w := by
  obtain ⟨i, hi, hz⟩ := Option.map_eq_some_iff.1 Tryd.infoU64
  rw [dgs_eq, dgs_eq]
  exact run_eql_array_int w 64 22 9 .u64 .u64 i Tryd.underlying64 Tryd.underlying22 hi hz (dgl a) (dgl b) (by simp [dgl]) (by simp [dgl])
theorem idx_dgs0 (n : Int) (w : World) : (Instr.index 64 (.agg (dgs n)) (.int .i64 0)).run Tryd.prog w = .ok (.int .u64 (n % 64)) w := by kernel_rfl
theorem idx_dgs1 (n : Int) (w : World) : (Instr.index 64 (.agg (dgs n)) (.int .i64 1)).run Tryd.prog w = .ok (.int .u64 (n / 64 % 64)) w := by kernel_rfl
theorem idx_dgs2 (n : Int) (w : World) : (Instr.index 64 (.agg (dgs n)) (.int .i64 2)).run Tryd.prog w = .ok (.int .u64 (n / 4096 % 64)) w := by kernel_rfl
theorem idx_dgs3 (n : Int) (w : World) : (Instr.index 64 (.agg (dgs n)) (.int .i64 3)).run Tryd.prog w = .ok (.int .u64 (n / 262144 % 64)) w := by kernel_rfl
theorem idx_dgs4 (n : Int) (w : World) : (Instr.index 64 (.agg (dgs n)) (.int .i64 4)).run Tryd.prog w = .ok (.int .u64 (n / 16777216 % 64)) w := by kernel_rfl
theorem idx_dgs5 (n : Int) (w : World) : (Instr.index 64 (.agg (dgs n)) (.int .i64 5)).run Tryd.prog w = .ok (.int .u64 (n / 1073741824 % 64)) w := by kernel_rfl
theorem idx_dgs6 (n : Int) (w : World) : (Instr.index 64 (.agg (dgs n)) (.int .i64 6)).run Tryd.prog w = .ok (.int .u64 (n / 68719476736 % 64)) w := by kernel_rfl
theorem idx_dgs7 (n : Int) (w : World) : (Instr.index 64 (.agg (dgs n)) (.int .i64 7)).run Tryd.prog w = .ok (.int .u64 (n / 4398046511104 % 64)) w := by kernel_rfl
theorem idx_dgs8 (n : Int) (w : World) : (Instr.index 64 (.agg (dgs n)) (.int .i64 8)).run Tryd.prog w = .ok (.int .u64 (n / 281474976710656)) w := by kernel_rfl

set_option maxHeartbeats 1000000 in
set_option maxRecDepth 100000 in
theorem digits_any (n : Int) (w : World) (h0 : 0 ≤ n) (h1 : n ≤ 18446744073709551615) :
    Calls Tryd.prog 53 #[.int .u64 n] w fun e w' => e = .returned (.agg (dgs n)) ∧ Below w.heap.size w w' := by
  have e0 := u64_and63 (n) (by omega) (by omega)
  have e1 := u64_and63 (n / 64) (by omega) (by omega)
  have e2 := u64_and63 (n / 4096) (by omega) (by omega)
  have e3 := u64_and63 (n / 262144) (by omega) (by omega)
  have e4 := u64_and63 (n / 16777216) (by omega) (by omega)
  have e5 := u64_and63 (n / 1073741824) (by omega) (by omega)
  have e6 := u64_and63 (n / 68719476736) (by omega) (by omega)
  have e7 := u64_and63 (n / 4398046511104) (by omega) (by omega)
  go_enter Tryd.func53, Tryd.ntmps53
  go_wp2
  refine wp_loop_rounds 9 ?_
  repeat (rw [rounds_succ]; go_wp2)
  refine bodyPost_ret (v := .agg (dgs n)) (by simp [results, Tryd.results53, go_sem, dgs]) rfl ⟨rfl, ?_⟩
  exact below_new (below_new (Below.refl _ _) _) _

def topI (a b : Int) : Int := if dgl a == dgl b then -1 else if a / 281474976710656 != b / 281474976710656 then 8 else if a / 4398046511104 % 64 != b / 4398046511104 % 64 then 7 else if a / 68719476736 % 64 != b / 68719476736 % 64 then 6 else if a / 1073741824 % 64 != b / 1073741824 % 64 then 5 else if a / 16777216 % 64 != b / 16777216 % 64 then 4 else if a / 262144 % 64 != b / 262144 % 64 then 3 else if a / 4096 % 64 != b / 4096 % 64 then 2 else if a / 64 % 64 != b / 64 % 64 then 1 else 0
set_option maxHeartbeats 4000000 in
set_option maxRecDepth 100000 in
theorem top_any (a b : Int) (w : World) (h0 : 0 ≤ a) (h1 : a ≤ 18446744073709551615) (k0 : 0 ≤ b) (k1 : b ≤ 18446744073709551615) :
    Calls Tryd.prog 15 #[.int .u64 a, .int .u64 b] w fun e w' => e = .returned (.int .i64 (topI a b)) ∧ Below w.heap.size w w' := by
  have heq := eq_dgs a b
  unfold dgs at heq
  rcases Bool.eq_false_or_eq_true (dgl a == dgl b) with hab | hab
  all_goals
    go_enter Tryd.func15, Tryd.ntmps15
    go_wp2_with fail
    go_step3
    go_wp2_with fail
    refine (digits_any _ _ (by omega) (by omega)).mono ?_
    rintro e w1 ⟨rfl, hb1⟩
    go_wp2_with fail
    refine (digits_any _ _ (by omega) (by omega)).mono ?_
    rintro e w2 ⟨rfl, hb2⟩
    unfold dgs
    have HB := Lib.hid (below_then hb1 hb2)
    clear hb1 hb2
    go_wp2_with fail
  · rw [Exit.noGoto_ret]
    go_ret
    exact ⟨by simp [topI, hab], below_new (below_new HB.out _) _⟩
  · go_step3
    go_wp2_with fail
    refine wp_loop_rounds 9 ?_
    iterate 8 (rw [rounds_succ]; go_wp2_with fail; go_quiet (fail); go_wp2_with fail; (rw [Exit.noGoto_ret]; go_ret; refine ⟨?_, by repeat (first | exact HB.out | refine below_drewN ?_ _ | refine below_new ?_ _)⟩; rw [topI]; simp [*]))
    rw [rounds_succ]; go_wp2_with fail
    rw [Exit.noGoto_ret]; go_ret; refine ⟨?_, by repeat (first | exact HB.out | refine below_drewN ?_ _ | refine below_new ?_ _)⟩; rw [topI]; simp [*]

def digitI (n l : Int) : Int := if l < 0 then 0 else if l = 0 then n % 64 else if l = 1 then n / 64 % 64 else if l = 2 then n / 4096 % 64 else if l = 3 then n / 262144 % 64 else if l = 4 then n / 16777216 % 64 else if l = 5 then n / 1073741824 % 64 else if l = 6 then n / 68719476736 % 64 else if l = 7 then n / 4398046511104 % 64 else n / 281474976710656 % 64
set_option maxHeartbeats 4000000 in
set_option maxRecDepth 100000 in
theorem digit_any (n l : Int) (w : World) (h0 : 0 ≤ n) (h1 : n ≤ 18446744073709551615) :
    Calls Tryd.prog 11 #[.int .u64 n, .int .i64 l] w fun e w' => e = .returned (.int .i64 (digitI n l)) ∧ Below w.heap.size w w' := by
  have hl : l < 0 ∨ l = 0 ∨ l = 1 ∨ l = 2 ∨ l = 3 ∨ l = 4 ∨ l = 5 ∨ l = 6 ∨ l = 7 ∨ l = 8 ∨ 9 ≤ l := by omega
  rcases hl with h | rfl | rfl | rfl | rfl | rfl | rfl | rfl | rfl | rfl | h
  · go_enter Tryd.func11, Tryd.ntmps11
    go_wp2
    go_ret
    exact ⟨by simp [digitI, h], Below.refl _ _⟩
  · have e0 := u64_and63 (n % 64) (by omega) (by omega)
    have i0 := idx_dgs0 n
    go_enter Tryd.func11, Tryd.ntmps11
    go_wp2_with fail
    refine (digits_any _ _ (by omega) (by omega)).mono ?_
    rintro e w1 ⟨rfl, hb1⟩
    go_wp2_with fail
    go_ret
    exact ⟨by simp [digitI], hb1⟩
  · have e0 := u64_and63 (n / 64 % 64) (by omega) (by omega)
    have i0 := idx_dgs1 n
    go_enter Tryd.func11, Tryd.ntmps11
    go_wp2_with fail
    refine (digits_any _ _ (by omega) (by omega)).mono ?_
    rintro e w1 ⟨rfl, hb1⟩
    go_wp2_with fail
    go_ret
    exact ⟨by simp [digitI], hb1⟩
  · have e0 := u64_and63 (n / 4096 % 64) (by omega) (by omega)
    have i0 := idx_dgs2 n
    go_enter Tryd.func11, Tryd.ntmps11
    go_wp2_with fail
    refine (digits_any _ _ (by omega) (by omega)).mono ?_
    rintro e w1 ⟨rfl, hb1⟩
    go_wp2_with fail
    go_ret
    exact ⟨by simp [digitI], hb1⟩
  · have e0 := u64_and63 (n / 262144 % 64) (by omega) (by omega)
    have i0 := idx_dgs3 n
    go_enter Tryd.func11, Tryd.ntmps11
    go_wp2_with fail
    refine (digits_any _ _ (by omega) (by omega)).mono ?_
    rintro e w1 ⟨rfl, hb1⟩
    go_wp2_with fail
    go_ret
    exact ⟨by simp [digitI], hb1⟩
  · have e0 := u64_and63 (n / 16777216 % 64) (by omega) (by omega)
    have i0 := idx_dgs4 n
    go_enter Tryd.func11, Tryd.ntmps11
    go_wp2_with fail
    refine (digits_any _ _ (by omega) (by omega)).mono ?_
    rintro e w1 ⟨rfl, hb1⟩
    go_wp2_with fail
    go_ret
    exact ⟨by simp [digitI], hb1⟩
  · have e0 := u64_and63 (n / 1073741824 % 64) (by omega) (by omega)
    have i0 := idx_dgs5 n
    go_enter Tryd.func11, Tryd.ntmps11
    go_wp2_with fail
    refine (digits_any _ _ (by omega) (by omega)).mono ?_
    rintro e w1 ⟨rfl, hb1⟩
    go_wp2_with fail
    go_ret
    exact ⟨by simp [digitI], hb1⟩
  · have e0 := u64_and63 (n / 68719476736 % 64) (by omega) (by omega)
    have i0 := idx_dgs6 n
    go_enter Tryd.func11, Tryd.ntmps11
    go_wp2_with fail
    refine (digits_any _ _ (by omega) (by omega)).mono ?_
    rintro e w1 ⟨rfl, hb1⟩
    go_wp2_with fail
    go_ret
    exact ⟨by simp [digitI], hb1⟩
  · have e0 := u64_and63 (n / 4398046511104 % 64) (by omega) (by omega)
    have i0 := idx_dgs7 n
    go_enter Tryd.func11, Tryd.ntmps11
    go_wp2_with fail
    refine (digits_any _ _ (by omega) (by omega)).mono ?_
    rintro e w1 ⟨rfl, hb1⟩
    go_wp2_with fail
    go_ret
    exact ⟨by simp [digitI], hb1⟩
  · have e0 := u64_and63 (n / 281474976710656) (by omega) (by omega)
    have i0 := idx_dgs8 n
    go_enter Tryd.func11, Tryd.ntmps11
    go_wp2_with fail
    refine (digits_any _ _ (by omega) (by omega)).mono ?_
    rintro e w1 ⟨rfl, hb1⟩
    go_wp2_with fail
    go_ret
    exact ⟨by simp [digitI], hb1⟩
  · have e0 := u64_and63 (n / 281474976710656) (by omega) (by omega)
    have i0 := idx_dgs8 n
    go_enter Tryd.func11, Tryd.ntmps11
    go_wp2_with fail
    refine (digits_any _ _ (by omega) (by omega)).mono ?_
    rintro e w1 ⟨rfl, hb1⟩
    go_wp2_with fail
    go_ret
    exact ⟨ret_int (show n / 281474976710656 % 64 = digitI n l by rw [digitI, if_neg (by omega), if_neg (by omega), if_neg (by omega), if_neg (by omega), if_neg (by omega), if_neg (by omega), if_neg (by omega), if_neg (by omega), if_neg (by omega)]), hb1⟩

def withI (n l d : Int) : Int := if l = 0 then n / 64 * 64 + d % 64 else if l = 1 then n / 4096 * 4096 + d % 64 * 64 else if l = 2 then n / 262144 * 262144 + d % 64 * 4096 else if l = 3 then n / 16777216 * 16777216 + d % 64 * 262144 else if l = 4 then n / 1073741824 * 1073741824 + d % 64 * 16777216 else if l = 5 then n / 68719476736 * 68719476736 + d % 64 * 1073741824 else if l = 6 then n / 4398046511104 * 4398046511104 + d % 64 * 68719476736 else if l = 7 then n / 281474976710656 * 281474976710656 + d % 64 * 4398046511104 else n
theorem wrap_and63 (d : Int) : bits .and .u64 (IntKind.u64.wrap d) 63 = d % 64 := by
  rw [IntKind.wrap_u64, u64_and63 _ (by omega) (by omega)]; omega
set_option maxHeartbeats 4000000 in
set_option maxRecDepth 100000 in
theorem with_any (n l d : Int) (w : World) (h0 : 0 ≤ n) (h1 : n ≤ 18446744073709551615) :
    Calls Tryd.prog 13 #[.int .u64 n, .int .i64 l, .int .i64 d] w fun e w' => e = .returned (.int .u64 (withI n l d)) ∧ Below w.heap.size w w' := by
  have hl : l < 0 ∨ l = 0 ∨ l = 1 ∨ l = 2 ∨ l = 3 ∨ l = 4 ∨ l = 5 ∨ l = 6 ∨ l = 7 ∨ 8 ≤ l := by omega
  have ew := wrap_and63 d
  have wd : 0 ≤ d % 64 ∧ d % 64 ≤ 63 := by omega
  obtain ⟨wd0, wd1⟩ := wd
  rcases hl with h | rfl | rfl | rfl | rfl | rfl | rfl | rfl | rfl | h
  · have hx : decide (l < 0) = true := by simpa using h
    go_enter Tryd.func13, Tryd.ntmps13
    go_wp2
    go_ret
    exact ⟨ret_int (show n = withI n l d by rw [withI, if_neg (by omega), if_neg (by omega), if_neg (by omega), if_neg (by omega), if_neg (by omega), if_neg (by omega), if_neg (by omega), if_neg (by omega)]), Below.refl _ _⟩
  · go_enter Tryd.func13, Tryd.ntmps13
    go_wp2_with fail
    go_quiet (fail)
    go_wp2_with fail
    go_ret
    refine ⟨?_, below_drewN (Below.refl _ _) _⟩
    congr 2
    rw [withI]
    simp
    rw [u64_or_add 6 _ _ (by omega) (by omega) (by omega) (by omega) (by omega) (by omega)]
  · go_enter Tryd.func13, Tryd.ntmps13
    go_wp2_with fail
    go_quiet (fail)
    go_wp2_with fail
    go_ret
    refine ⟨?_, below_drewN (Below.refl _ _) _⟩
    congr 2
    rw [withI]
    simp
    rw [u64_or_add 12 _ _ (by omega) (by omega) (by omega) (by omega) (by omega) (by omega)]
    omega
  · go_enter Tryd.func13, Tryd.ntmps13
    go_wp2_with fail
    go_quiet (fail)
    go_wp2_with fail
    go_ret
    refine ⟨?_, below_drewN (Below.refl _ _) _⟩
    congr 2
    rw [withI]
    simp
    rw [u64_or_add 18 _ _ (by omega) (by omega) (by omega) (by omega) (by omega) (by omega)]
    omega
  · go_enter Tryd.func13, Tryd.ntmps13
    go_wp2_with fail
    go_quiet (fail)
    go_wp2_with fail
    go_ret
    refine ⟨?_, below_drewN (Below.refl _ _) _⟩
    congr 2
    rw [withI]
    simp
    rw [u64_or_add 24 _ _ (by omega) (by omega) (by omega) (by omega) (by omega) (by omega)]
    omega
  · go_enter Tryd.func13, Tryd.ntmps13
    go_wp2_with fail
    go_quiet (fail)
    go_wp2_with fail
    go_ret
    refine ⟨?_, below_drewN (Below.refl _ _) _⟩
    congr 2
    rw [withI]
    simp
    rw [u64_or_add 30 _ _ (by omega) (by omega) (by omega) (by omega) (by omega) (by omega)]
    omega
  · go_enter Tryd.func13, Tryd.ntmps13
    go_wp2_with fail
    go_quiet (fail)
    go_wp2_with fail
    go_ret
    refine ⟨?_, below_drewN (Below.refl _ _) _⟩
    congr 2
    rw [withI]
    simp
    rw [u64_or_add 36 _ _ (by omega) (by omega) (by omega) (by omega) (by omega) (by omega)]
    omega
  · go_enter Tryd.func13, Tryd.ntmps13
    go_wp2_with fail
    go_quiet (fail)
    go_wp2_with fail
    go_ret
    refine ⟨?_, below_drewN (Below.refl _ _) _⟩
    congr 2
    rw [withI]
    simp
    rw [u64_or_add 42 _ _ (by omega) (by omega) (by omega) (by omega) (by omega) (by omega)]
    omega
  · go_enter Tryd.func13, Tryd.ntmps13
    go_wp2_with fail
    go_quiet (fail)
    go_wp2_with fail
    go_ret
    refine ⟨?_, below_drewN (Below.refl _ _) _⟩
    congr 2
    rw [withI]
    simp
    rw [u64_or_add 48 _ _ (by omega) (by omega) (by omega) (by omega) (by omega) (by omega)]
    omega
  · have hx : decide (l < 0) = false := by simp; omega
    have hy : decide (8 ≤ l) = true := by simpa using h
    go_enter Tryd.func13, Tryd.ntmps13
    go_wp2
    go_ret
    exact ⟨ret_int (show n = withI n l d by rw [withI, if_neg (by omega), if_neg (by omega), if_neg (by omega), if_neg (by omega), if_neg (by omega), if_neg (by omega), if_neg (by omega), if_neg (by omega)]), Below.refl _ _⟩

def maskI (n : Int) : Int := if 64 ≤ n then 18446744073709551615 else 2 ^ n.toNat - 1
theorem wrap_pow (j : Nat) (h : j < 64) : IntKind.u64.wrap (IntKind.u64.wrap (2 ^ j) - 1) = 2 ^ j - 1 := by
  have h1 : (1 : Int) ≤ 2 ^ j := by
    have := Nat.one_le_two_pow (n := j); exact_mod_cast this
  have h2 : (2 : Int) ^ j ≤ 2 ^ 63 := by
    have := Nat.pow_le_pow_right (n := 2) (by decide) (show j ≤ 63 by omega); exact_mod_cast this
  rw [IntKind.wrap_u64, IntKind.wrap_u64]
  omega
set_option maxHeartbeats 1000000 in
theorem mask_any (n : Int) (w : World) :
    Calls Tryd.prog 34 #[.int .i64 n] w fun e w' => e = .returned (.int .u64 (maskI n)) ∧ Below w.heap.size w w' := by
  by_cases h : 64 ≤ n
  · go_enter Tryd.func34, Tryd.ntmps34
    go_wp2
    go_ret
    exact ⟨by simp [maskI, h], Below.refl _ _⟩
  · by_cases hn : 0 ≤ n
    · have e1 := wrap_pow n.toNat (by omega)
      go_enter Tryd.func34, Tryd.ntmps34
      go_wp2
      go_ret
      exact ⟨ret_int (show 2 ^ n.toNat - 1 = maskI n by rw [maskI, if_neg (by omega)]), Below.refl _ _⟩
    · go_enter Tryd.func34, Tryd.ntmps34
      go_wp2
      go_ret
      exact ⟨ret_int (show 0 = maskI n by rw [maskI, if_neg (by omega), show n.toNat = 0 by omega]; rfl), Below.refl _ _⟩
end Go.Proofs.YtnoafhfidecppaaDoor
