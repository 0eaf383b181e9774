/- Power, Join, Signed; the chapter's example; the document's Digit, With and Top. -/
import Derived.Test.YtnoafhfidecppaaDoorBitsG
import Derived.Test.YtnoafhfidecppaaDoorTopP
namespace Go.Proofs.YtnoafhfidecppaaDoor
open Go.RowKit
set_option linter.unusedVariables false
set_option linter.unusedSimpArgs false

set_option maxHeartbeats 4000000 in
set_option maxRecDepth 100000 in
theorem power_any (l : Int) (w : World) (h0 : 0 ≤ l) (h1 : l ≤ 8) :
    Calls Tryd.prog 17 #[.int .i64 l] w fun e w' => e = .returned (.int .u64 (64 ^ l.toNat)) ∧ Below w.heap.size w w' := by
  have hl : l = 0 ∨ l = 1 ∨ l = 2 ∨ l = 3 ∨ l = 4 ∨ l = 5 ∨ l = 6 ∨ l = 7 ∨ l = 8 := by omega
  rcases hl with rfl | rfl | rfl | rfl | rfl | rfl | rfl | rfl | rfl
  all_goals
    go_enter Tryd.func17, Tryd.ntmps17
    go_wp2
    refine wp_loop_rounds 9 ?_
    repeat (rw [rounds_succ]; go_wp2)
    go_ret
    exact ⟨rfl, Below.refl _ _⟩
theorem join_or (h l : Int) (h0 : 0 ≤ h) (h1 : h ≤ 4294967295) (l0 : 0 ≤ l) (l1 : l ≤ 4294967295) : bits .or .u64 (h * 4294967296) l = h * 4294967296 + l :=
  u64_or_add 32 _ _ (by omega) (by omega) (by omega) l0 (by omega) (by omega)
set_option maxHeartbeats 4000000 in
set_option maxRecDepth 100000 in
theorem join_any (h l : Int) (w : World) (h0 : 0 ≤ h) (h1 : h ≤ 4294967295) (l0 : 0 ≤ l) (l1 : l ≤ 4294967295) :
    Calls Tryd.prog 28 #[.int .u32 h, .int .u32 l] w fun e w' => e = .returned (.int .u64 (h * 4294967296 + l)) ∧ Below w.heap.size w w' := by
  have e1 := join_or h l h0 h1 l0 l1
  go_enter Tryd.func28, Tryd.ntmps28
  go_wp2
  go_ret
  exact ⟨rfl, Below.refl _ _⟩
def signedI (n : Int) : Int := if n < 2147483648 then n else n - 4294967296
set_option maxHeartbeats 4000000 in
set_option maxRecDepth 100000 in
theorem signed_any (n : Int) (w : World) (h0 : 0 ≤ n) (h1 : n ≤ 4294967295) :
    Calls Tryd.prog 36 #[.int .u32 n] w fun e w' => e = .returned (.int .i64 (signedI n)) ∧ Below w.heap.size w w' := by
  have e1 : IntKind.i32.wrap n = signedI n := by
    rw [IntKind.wrap_i32, signedI]
    split <;> omega
  have e2 : -2147483648 ≤ signedI n ∧ signedI n ≤ 2147483647 := by
    rw [signedI]
    split <;> omega
  obtain ⟨e3, e4⟩ := e2
  go_enter Tryd.func36, Tryd.ntmps36
  go_wp2
  go_ret
  exact ⟨rfl, Below.refl _ _⟩
set_option maxHeartbeats 4000000 in
set_option maxRecDepth 100000 in
theorem known01 (w : World) (hT : Tab w) : Calls Tryd.prog 10 #[] w fun e w' => e = .returned (.bool true) ∧ Below w.heap.size w w' := by
  have f1 : digitI 4096 2 = 1 := by decide
  have f2 : topI 63 64 = 1 := by decide
  have f3 : firstI 9 1 = 3 := by decide
  have f4 : signedI 4294967295 = -1 := by decide
  have HT := Lib.hid hT
  clear hT
  go_enter Tryd.func10, Tryd.ntmps10
  refine wp_start ?_
  intro x
  go_wp2_with (first | (go_at_call 28; refine (join_any _ _ _ (by omega) (by omega) (by omega) (by omega)).mono ?_; rintro e wr ⟨rfl, hbr⟩; obtain ⟨y, rfl⟩ := Ext.step _ hbr; clear hbr) | (go_at_call 11; refine (digit_any _ _ _ (by omega) (by omega)).mono ?_; rintro e wr ⟨rfl, hbr⟩; obtain ⟨y, rfl⟩ := Ext.step _ hbr; clear hbr) | (go_at_call 15; refine (top_any _ _ _ (by omega) (by omega) (by omega) (by omega)).mono ?_; rintro e wr ⟨rfl, hbr⟩; obtain ⟨y, rfl⟩ := Ext.step _ hbr; clear hbr) | (go_at_call 19; refine (first_any _ _ _ (by omega) (by omega) (HT.out.at _)).mono ?_; rintro e wr ⟨rfl, hbr⟩; obtain ⟨y, rfl⟩ := Ext.step _ hbr; clear hbr) | (go_at_call 36; refine (signed_any _ _ (by omega) (by omega)).mono ?_; rintro e wr ⟨rfl, hbr⟩; obtain ⟨y, rfl⟩ := Ext.step _ hbr; clear hbr))
  go_ret
  exact ⟨rfl, Ext.ok _⟩
set_option maxHeartbeats 4000000 in
set_option maxRecDepth 100000 in
theorem rdigit_any (n l : Int) (w : World) (h0 : 0 ≤ n) (h1 : n ≤ 18446744073709551615) :
    Calls Tryd.prog 12 #[.int .u64 n, .int .i64 l] w fun e w' => e = .returned (.int .i64 (digitI n l)) ∧ Below w.heap.size w w' := by
  have hl : l < 0 ∨ l = 0 ∨ l = 1 ∨ l = 2 ∨ l = 3 ∨ l = 4 ∨ l = 5 ∨ l = 6 ∨ l = 7 ∨ l = 8 ∨ 9 ≤ l := by omega
  rcases hl with h | rfl | rfl | rfl | rfl | rfl | rfl | rfl | rfl | rfl | h
  · go_enter Tryd.func12, Tryd.ntmps12
    go_wp2
    go_ret
    exact ⟨by simp [digitI, h], Below.refl _ _⟩
  · go_enter Tryd.func12, Tryd.ntmps12
    refine wp_start ?_
    intro x
    go_wp2_with (first | (go_at_call 17; refine (power_any _ _ (by omega) (by omega)).mono ?_; rintro e wr ⟨rfl, hbr⟩; obtain ⟨y, rfl⟩ := Ext.step _ hbr; clear hbr))
    go_ret
    exact ⟨ret_int (show n % 64 = digitI n 0 by simp [digitI]), Ext.ok _⟩
  · go_enter Tryd.func12, Tryd.ntmps12
    refine wp_start ?_
    intro x
    go_wp2_with (first | (go_at_call 17; refine (power_any _ _ (by omega) (by omega)).mono ?_; rintro e wr ⟨rfl, hbr⟩; obtain ⟨y, rfl⟩ := Ext.step _ hbr; clear hbr))
    go_ret
    exact ⟨ret_int (show n / 64 % 64 = digitI n 1 by simp [digitI]), Ext.ok _⟩
  · go_enter Tryd.func12, Tryd.ntmps12
    refine wp_start ?_
    intro x
    go_wp2_with (first | (go_at_call 17; refine (power_any _ _ (by omega) (by omega)).mono ?_; rintro e wr ⟨rfl, hbr⟩; obtain ⟨y, rfl⟩ := Ext.step _ hbr; clear hbr))
    go_ret
    exact ⟨ret_int (show n / 4096 % 64 = digitI n 2 by simp [digitI]), Ext.ok _⟩
  · go_enter Tryd.func12, Tryd.ntmps12
    refine wp_start ?_
    intro x
    go_wp2_with (first | (go_at_call 17; refine (power_any _ _ (by omega) (by omega)).mono ?_; rintro e wr ⟨rfl, hbr⟩; obtain ⟨y, rfl⟩ := Ext.step _ hbr; clear hbr))
    go_ret
    exact ⟨ret_int (show n / 262144 % 64 = digitI n 3 by simp [digitI]), Ext.ok _⟩
  · go_enter Tryd.func12, Tryd.ntmps12
    refine wp_start ?_
    intro x
    go_wp2_with (first | (go_at_call 17; refine (power_any _ _ (by omega) (by omega)).mono ?_; rintro e wr ⟨rfl, hbr⟩; obtain ⟨y, rfl⟩ := Ext.step _ hbr; clear hbr))
    go_ret
    exact ⟨ret_int (show n / 16777216 % 64 = digitI n 4 by simp [digitI]), Ext.ok _⟩
  · go_enter Tryd.func12, Tryd.ntmps12
    refine wp_start ?_
    intro x
    go_wp2_with (first | (go_at_call 17; refine (power_any _ _ (by omega) (by omega)).mono ?_; rintro e wr ⟨rfl, hbr⟩; obtain ⟨y, rfl⟩ := Ext.step _ hbr; clear hbr))
    go_ret
    exact ⟨ret_int (show n / 1073741824 % 64 = digitI n 5 by simp [digitI]), Ext.ok _⟩
  · go_enter Tryd.func12, Tryd.ntmps12
    refine wp_start ?_
    intro x
    go_wp2_with (first | (go_at_call 17; refine (power_any _ _ (by omega) (by omega)).mono ?_; rintro e wr ⟨rfl, hbr⟩; obtain ⟨y, rfl⟩ := Ext.step _ hbr; clear hbr))
    go_ret
    exact ⟨ret_int (show n / 68719476736 % 64 = digitI n 6 by simp [digitI]), Ext.ok _⟩
  · go_enter Tryd.func12, Tryd.ntmps12
    refine wp_start ?_
    intro x
    go_wp2_with (first | (go_at_call 17; refine (power_any _ _ (by omega) (by omega)).mono ?_; rintro e wr ⟨rfl, hbr⟩; obtain ⟨y, rfl⟩ := Ext.step _ hbr; clear hbr))
    go_ret
    exact ⟨ret_int (show n / 4398046511104 % 64 = digitI n 7 by simp [digitI]), Ext.ok _⟩
  · go_enter Tryd.func12, Tryd.ntmps12
    refine wp_start ?_
    intro x
    go_wp2_with (first | (go_at_call 17; refine (power_any _ _ (by omega) (by omega)).mono ?_; rintro e wr ⟨rfl, hbr⟩; obtain ⟨y, rfl⟩ := Ext.step _ hbr; clear hbr))
    go_ret
    exact ⟨ret_int (show n / 281474976710656 % 64 = digitI n 8 by simp [digitI]), Ext.ok _⟩
  · go_enter Tryd.func12, Tryd.ntmps12
    refine wp_start ?_
    intro x
    go_wp2_with (first | (go_at_call 17; refine (power_any _ _ (by omega) (by omega)).mono ?_; rintro e wr ⟨rfl, hbr⟩; obtain ⟨y, rfl⟩ := Ext.step _ hbr; clear hbr))
    go_ret
    exact ⟨ret_int (show n / 281474976710656 % 64 = digitI n l by rw [digitI, if_neg (by omega), if_neg (by omega), if_neg (by omega), if_neg (by omega), if_neg (by omega), if_neg (by omega), if_neg (by omega), if_neg (by omega), if_neg (by omega)]), Ext.ok _⟩
theorem rem_cases (d : Int) : ∃ t : Int, 0 ≤ t ∧ t ≤ 63 ∧ d % 64 = t ∧ (d.tmod 64 = t ∨ (d.tmod 64 = t - 64 ∧ 1 ≤ t)) := by
  refine ⟨d % 64, by omega, by omega, rfl, ?_⟩
  rw [Int.tmod_eq_emod]
  split <;> omega
set_option maxHeartbeats 4000000 in
set_option maxRecDepth 100000 in
theorem rwith_out (n l d : Int) (w : World) (h : l < 0 ∨ 7 < l) :
    Calls Tryd.prog 14 #[.int .u64 n, .int .i64 l, .int .i64 d] w fun e w' => e = .returned (.int .u64 (withI n l d)) ∧ Below w.heap.size w w' := by
  have e1 : n = withI n l d := by rw [withI, if_neg (by omega), if_neg (by omega), if_neg (by omega), if_neg (by omega), if_neg (by omega), if_neg (by omega), if_neg (by omega), if_neg (by omega)]
  have E1 := Lib.hid e1
  clear e1
  by_cases h2 : l < 0
  · have d1 : decide (l < 0) = true := by simpa using h2
    go_enter Tryd.func14, Tryd.ntmps14
    go_wp2
    go_ret
    exact ⟨ret_int E1.out, Below.refl _ _⟩
  · have d1 : decide (l < 0) = false := by simpa using h2
    have d2 : decide (7 < l) = true := by simp; omega
    go_enter Tryd.func14, Tryd.ntmps14
    go_wp2
    go_ret
    exact ⟨ret_int E1.out, Below.refl _ _⟩
set_option maxHeartbeats 8000000 in
set_option maxRecDepth 100000 in
theorem rwith_any (n l d : Int) (w : World) (h0 : 0 ≤ n) (h1 : n ≤ 18446744073709551615) :
    Calls Tryd.prog 14 #[.int .u64 n, .int .i64 l, .int .i64 d] w fun e w' => e = .returned (.int .u64 (withI n l d)) ∧ Below w.heap.size w w' := by
  have hl : (l < 0 ∨ 7 < l) ∨ l = 0 ∨ l = 1 ∨ l = 2 ∨ l = 3 ∨ l = 4 ∨ l = 5 ∨ l = 6 ∨ l = 7 := by omega
  obtain ⟨t, t0, t1, ht, hr⟩ := rem_cases d
  rcases hl with h | rfl | rfl | rfl | rfl | rfl | rfl | rfl | rfl
  · exact rwith_out n l d w h
  · have e1 : withI n 0 d = n / 64 * 64 + t := by simp [withI, ht]
    have E1 := Lib.hid e1
    clear e1
    have HTT := Lib.hid ht
    clear ht
    rcases hr with hr | ⟨hr, ht1⟩
    all_goals
      go_enter Tryd.func14, Tryd.ntmps14
      refine wp_start ?_
      intro x
      go_wp2_with (first | (go_at_call 17; refine (power_any _ _ (by omega) (by omega)).mono ?_; rintro e wr ⟨rfl, hbr⟩; obtain ⟨y, rfl⟩ := Ext.step _ hbr; clear hbr))
      go_ret
      exact ⟨ret_int (by rw [E1.out] <;> omega), Ext.ok _⟩
  · have e1 : withI n 1 d = n / 4096 * 4096 + t * 64 := by simp [withI, ht]
    have E1 := Lib.hid e1
    clear e1
    have HTT := Lib.hid ht
    clear ht
    rcases hr with hr | ⟨hr, ht1⟩
    all_goals
      go_enter Tryd.func14, Tryd.ntmps14
      refine wp_start ?_
      intro x
      go_wp2_with (first | (go_at_call 17; refine (power_any _ _ (by omega) (by omega)).mono ?_; rintro e wr ⟨rfl, hbr⟩; obtain ⟨y, rfl⟩ := Ext.step _ hbr; clear hbr))
      go_ret
      exact ⟨ret_int (by rw [E1.out] <;> omega), Ext.ok _⟩
  · have e1 : withI n 2 d = n / 262144 * 262144 + t * 4096 := by simp [withI, ht]
    have E1 := Lib.hid e1
    clear e1
    have HTT := Lib.hid ht
    clear ht
    rcases hr with hr | ⟨hr, ht1⟩
    all_goals
      go_enter Tryd.func14, Tryd.ntmps14
      refine wp_start ?_
      intro x
      go_wp2_with (first | (go_at_call 17; refine (power_any _ _ (by omega) (by omega)).mono ?_; rintro e wr ⟨rfl, hbr⟩; obtain ⟨y, rfl⟩ := Ext.step _ hbr; clear hbr))
      go_ret
      exact ⟨ret_int (by rw [E1.out] <;> omega), Ext.ok _⟩
  · have e1 : withI n 3 d = n / 16777216 * 16777216 + t * 262144 := by simp [withI, ht]
    have E1 := Lib.hid e1
    clear e1
    have HTT := Lib.hid ht
    clear ht
    rcases hr with hr | ⟨hr, ht1⟩
    all_goals
      go_enter Tryd.func14, Tryd.ntmps14
      refine wp_start ?_
      intro x
      go_wp2_with (first | (go_at_call 17; refine (power_any _ _ (by omega) (by omega)).mono ?_; rintro e wr ⟨rfl, hbr⟩; obtain ⟨y, rfl⟩ := Ext.step _ hbr; clear hbr))
      go_ret
      exact ⟨ret_int (by rw [E1.out] <;> omega), Ext.ok _⟩
  · have e1 : withI n 4 d = n / 1073741824 * 1073741824 + t * 16777216 := by simp [withI, ht]
    have E1 := Lib.hid e1
    clear e1
    have HTT := Lib.hid ht
    clear ht
    rcases hr with hr | ⟨hr, ht1⟩
    all_goals
      go_enter Tryd.func14, Tryd.ntmps14
      refine wp_start ?_
      intro x
      go_wp2_with (first | (go_at_call 17; refine (power_any _ _ (by omega) (by omega)).mono ?_; rintro e wr ⟨rfl, hbr⟩; obtain ⟨y, rfl⟩ := Ext.step _ hbr; clear hbr))
      go_ret
      exact ⟨ret_int (by rw [E1.out] <;> omega), Ext.ok _⟩
  · have e1 : withI n 5 d = n / 68719476736 * 68719476736 + t * 1073741824 := by simp [withI, ht]
    have E1 := Lib.hid e1
    clear e1
    have HTT := Lib.hid ht
    clear ht
    rcases hr with hr | ⟨hr, ht1⟩
    all_goals
      go_enter Tryd.func14, Tryd.ntmps14
      refine wp_start ?_
      intro x
      go_wp2_with (first | (go_at_call 17; refine (power_any _ _ (by omega) (by omega)).mono ?_; rintro e wr ⟨rfl, hbr⟩; obtain ⟨y, rfl⟩ := Ext.step _ hbr; clear hbr))
      go_ret
      exact ⟨ret_int (by rw [E1.out] <;> omega), Ext.ok _⟩
  · have e1 : withI n 6 d = n / 4398046511104 * 4398046511104 + t * 68719476736 := by simp [withI, ht]
    have E1 := Lib.hid e1
    clear e1
    have HTT := Lib.hid ht
    clear ht
    rcases hr with hr | ⟨hr, ht1⟩
    all_goals
      go_enter Tryd.func14, Tryd.ntmps14
      refine wp_start ?_
      intro x
      go_wp2_with (first | (go_at_call 17; refine (power_any _ _ (by omega) (by omega)).mono ?_; rintro e wr ⟨rfl, hbr⟩; obtain ⟨y, rfl⟩ := Ext.step _ hbr; clear hbr))
      go_ret
      exact ⟨ret_int (by rw [E1.out] <;> omega), Ext.ok _⟩
  · have e1 : withI n 7 d = n / 281474976710656 * 281474976710656 + t * 4398046511104 := by simp [withI, ht]
    have E1 := Lib.hid e1
    clear e1
    have HTT := Lib.hid ht
    clear ht
    rcases hr with hr | ⟨hr, ht1⟩
    all_goals
      go_enter Tryd.func14, Tryd.ntmps14
      refine wp_start ?_
      intro x
      go_wp2_with (first | (go_at_call 17; refine (power_any _ _ (by omega) (by omega)).mono ?_; rintro e wr ⟨rfl, hbr⟩; obtain ⟨y, rfl⟩ := Ext.step _ hbr; clear hbr))
      go_ret
      exact ⟨ret_int (by rw [E1.out] <;> omega), Ext.ok _⟩
set_option maxHeartbeats 8000000 in
set_option maxRecDepth 100000 in
theorem rtop_any (a b : Int) (w : World) (h0 : 0 ≤ a) (h1 : a ≤ 18446744073709551615) (k0 : 0 ≤ b) (k1 : b ≤ 18446744073709551615) :
    Calls Tryd.prog 16 #[.int .u64 a, .int .u64 b] w fun e w' => e = .returned (.int .i64 (topI a b)) ∧ Below w.heap.size w w' := by
  rcases Bool.eq_false_or_eq_true (a == b) with hab | hab
  · have e : a = b := by simpa using hab
    have e1 : topI a b = -1 := by rw [topI, e, if_pos (by simp)]
    have E1 := Lib.hid e1
    clear e1 e
    go_enter Tryd.func16, Tryd.ntmps16
    go_wp2
    go_ret
    exact ⟨ret_int E1.out.symm, Below.refl _ _⟩
  · have e : ¬ (dgl a == dgl b) = true := fun h => by
      have := dgl_inj h
      simp [this] at hab
    have e1 := topI.eq_1 a b
    rw [if_neg e] at e1
    have E1 := Lib.hid e1
    clear e1 e
    have da1 : digitI a 1 = a / 64 % 64 := by simp [digitI]
    have db1 : digitI b 1 = b / 64 % 64 := by simp [digitI]
    have da2 : digitI a 2 = a / 4096 % 64 := by simp [digitI]
    have db2 : digitI b 2 = b / 4096 % 64 := by simp [digitI]
    have da3 : digitI a 3 = a / 262144 % 64 := by simp [digitI]
    have db3 : digitI b 3 = b / 262144 % 64 := by simp [digitI]
    have da4 : digitI a 4 = a / 16777216 % 64 := by simp [digitI]
    have db4 : digitI b 4 = b / 16777216 % 64 := by simp [digitI]
    have da5 : digitI a 5 = a / 1073741824 % 64 := by simp [digitI]
    have db5 : digitI b 5 = b / 1073741824 % 64 := by simp [digitI]
    have da6 : digitI a 6 = a / 68719476736 % 64 := by simp [digitI]
    have db6 : digitI b 6 = b / 68719476736 % 64 := by simp [digitI]
    have da7 : digitI a 7 = a / 4398046511104 % 64 := by simp [digitI]
    have db7 : digitI b 7 = b / 4398046511104 % 64 := by simp [digitI]
    go_enter Tryd.func16, Tryd.ntmps16
    refine wp_start ?_
    intro x
    go_wp2_with fail
    refine wp_region_ext _ (by kernel_rfl) (by kernel_rfl) ?_
    repeat (go_big_quiet_step ((go_at_call 17; refine Ext.call (power_any _ _ (by omega) (by omega)))))
    refine wpQuiet_nil ?_
    rintro _ ⟨y, rfl⟩
    go_wp2_with fail
    · have t8 : (a / 281474976710656 != b / 281474976710656) = true := by assumption
      go_ret
      exact ⟨ret_int (by rw [E1.out, if_pos t8]), Ext.ok _⟩
    · have t8 : (a / 281474976710656 != b / 281474976710656) = false := by assumption
      refine wp_loop_rounds 8 ?_
      rw [rounds_succ]; go_wp2_with (first | (go_at_call 12; refine (rdigit_any _ _ _ (by omega) (by omega)).mono ?_; rintro e wr ⟨rfl, hbr⟩; obtain ⟨y, rfl⟩ := Ext.step _ hbr; clear hbr))
      · have t7 : (a / 4398046511104 % 64 != b / 4398046511104 % 64) = true := by assumption
        go_ret
        exact ⟨ret_int (by rw [E1.out, if_neg (by rw [t8]; simp), if_pos t7]), Ext.ok _⟩
      have t7 : (a / 4398046511104 % 64 != b / 4398046511104 % 64) = false := by assumption
      rw [rounds_succ]; go_wp2_with (first | (go_at_call 12; refine (rdigit_any _ _ _ (by omega) (by omega)).mono ?_; rintro e wr ⟨rfl, hbr⟩; obtain ⟨y, rfl⟩ := Ext.step _ hbr; clear hbr))
      · have t6 : (a / 68719476736 % 64 != b / 68719476736 % 64) = true := by assumption
        go_ret
        exact ⟨ret_int (by rw [E1.out, if_neg (by rw [t8]; simp), if_neg (by rw [t7]; simp), if_pos t6]), Ext.ok _⟩
      have t6 : (a / 68719476736 % 64 != b / 68719476736 % 64) = false := by assumption
      rw [rounds_succ]; go_wp2_with (first | (go_at_call 12; refine (rdigit_any _ _ _ (by omega) (by omega)).mono ?_; rintro e wr ⟨rfl, hbr⟩; obtain ⟨y, rfl⟩ := Ext.step _ hbr; clear hbr))
      · have t5 : (a / 1073741824 % 64 != b / 1073741824 % 64) = true := by assumption
        go_ret
        exact ⟨ret_int (by rw [E1.out, if_neg (by rw [t8]; simp), if_neg (by rw [t7]; simp), if_neg (by rw [t6]; simp), if_pos t5]), Ext.ok _⟩
      have t5 : (a / 1073741824 % 64 != b / 1073741824 % 64) = false := by assumption
      rw [rounds_succ]; go_wp2_with (first | (go_at_call 12; refine (rdigit_any _ _ _ (by omega) (by omega)).mono ?_; rintro e wr ⟨rfl, hbr⟩; obtain ⟨y, rfl⟩ := Ext.step _ hbr; clear hbr))
      · have t4 : (a / 16777216 % 64 != b / 16777216 % 64) = true := by assumption
        go_ret
        exact ⟨ret_int (by rw [E1.out, if_neg (by rw [t8]; simp), if_neg (by rw [t7]; simp), if_neg (by rw [t6]; simp), if_neg (by rw [t5]; simp), if_pos t4]), Ext.ok _⟩
      have t4 : (a / 16777216 % 64 != b / 16777216 % 64) = false := by assumption
      rw [rounds_succ]; go_wp2_with (first | (go_at_call 12; refine (rdigit_any _ _ _ (by omega) (by omega)).mono ?_; rintro e wr ⟨rfl, hbr⟩; obtain ⟨y, rfl⟩ := Ext.step _ hbr; clear hbr))
      · have t3 : (a / 262144 % 64 != b / 262144 % 64) = true := by assumption
        go_ret
        exact ⟨ret_int (by rw [E1.out, if_neg (by rw [t8]; simp), if_neg (by rw [t7]; simp), if_neg (by rw [t6]; simp), if_neg (by rw [t5]; simp), if_neg (by rw [t4]; simp), if_pos t3]), Ext.ok _⟩
      have t3 : (a / 262144 % 64 != b / 262144 % 64) = false := by assumption
      rw [rounds_succ]; go_wp2_with (first | (go_at_call 12; refine (rdigit_any _ _ _ (by omega) (by omega)).mono ?_; rintro e wr ⟨rfl, hbr⟩; obtain ⟨y, rfl⟩ := Ext.step _ hbr; clear hbr))
      · have t2 : (a / 4096 % 64 != b / 4096 % 64) = true := by assumption
        go_ret
        exact ⟨ret_int (by rw [E1.out, if_neg (by rw [t8]; simp), if_neg (by rw [t7]; simp), if_neg (by rw [t6]; simp), if_neg (by rw [t5]; simp), if_neg (by rw [t4]; simp), if_neg (by rw [t3]; simp), if_pos t2]), Ext.ok _⟩
      have t2 : (a / 4096 % 64 != b / 4096 % 64) = false := by assumption
      rw [rounds_succ]; go_wp2_with (first | (go_at_call 12; refine (rdigit_any _ _ _ (by omega) (by omega)).mono ?_; rintro e wr ⟨rfl, hbr⟩; obtain ⟨y, rfl⟩ := Ext.step _ hbr; clear hbr))
      · have t1 : (a / 64 % 64 != b / 64 % 64) = true := by assumption
        go_ret
        exact ⟨ret_int (by rw [E1.out, if_neg (by rw [t8]; simp), if_neg (by rw [t7]; simp), if_neg (by rw [t6]; simp), if_neg (by rw [t5]; simp), if_neg (by rw [t4]; simp), if_neg (by rw [t3]; simp), if_neg (by rw [t2]; simp), if_pos t1]), Ext.ok _⟩
      have t1 : (a / 64 % 64 != b / 64 % 64) = false := by assumption
      rw [rounds_succ]; go_wp2_with fail
      go_ret
      exact ⟨ret_int (by rw [E1.out, if_neg (by rw [t8]; simp), if_neg (by rw [t7]; simp), if_neg (by rw [t6]; simp), if_neg (by rw [t5]; simp), if_neg (by rw [t4]; simp), if_neg (by rw [t3]; simp), if_neg (by rw [t2]; simp), if_neg (by rw [t1]; simp)]), Ext.ok _⟩
end Go.Proofs.YtnoafhfidecppaaDoor
