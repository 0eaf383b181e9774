/- The document's Field and Put; the walk of the law BitsFields. -/
import Derived.Test.YtnoafhfidecppaaDoorBitsL
namespace Go.Proofs.YtnoafhfidecppaaDoor
open Go.RowKit
set_option linter.unusedVariables false
set_option linter.unusedSimpArgs false
set_option maxHeartbeats 4000000 in
set_option maxRecDepth 100000 in
theorem rField_aux (Z : Nat → Bool) (n low width : Int) (HZ : Hid (Z = fun j => bitI n (low.toNat + j))) (c : Nat) (hc : c = fcount low width) (h : okF low width) (w : World) (n0 : 0 ≤ n) (n1 : n ≤ 4294967295) (w1 : width ≤ 9223372036854775807) :
    Calls Tryd.prog 22 #[.int .u32 n, .int .i64 low, .int .i64 width] w fun e w' => e = .returned (.int .u32 (bs Z c)) ∧ Below w.heap.size w w' := by
  obtain ⟨g0, g1, g2⟩ := h
  unfold fcount at hc
  have d1 : decide (0 ≤ low) = true := by simpa using g0
  have d2 : decide (low < 32) = true := by simpa using g1
  go_enter Tryd.func22, Tryd.ntmps22
  go_wp2
  go_loopg [7, 8, 9] c (fun g v unit i wr => ∃ (j : Nat) (y : Ext w.heap.size w), j + g = c ∧ v = .int .u32 (bs Z j) ∧ unit = .int .u32 (IntKind.u32.wrap (2 ^ j)) ∧ i = .int .i64 (low + j) ∧ wr = y.world)
  case atStart => exact ⟨0, ⟨w, Below.refl _ _⟩, by omega, rfl, rfl, by simp, rfl⟩
  case round =>
    obtain ⟨j, y, hj, rfl, rfl, rfl, rfl⟩ := hrel
    obtain ⟨z0, z1⟩ := bs_range Z j
    by_cases hlt : j < c
    · obtain ⟨p0, p1⟩ := pow_small j (by omega)
      have eu := wrap_unit j (by omega)
      have d3 : decide (low + j < 32) = true := by simp; omega
      have d4 : decide (low + j - low < width) = true := by simp; omega
      have en : (low + j).toNat = low.toNat + j := by omega
      cases gk with
      | zero => omega
      | succ g =>
      rcases Bool.eq_false_or_eq_true (bitI n (low.toNat + j)) with hx | hx
      all_goals
        go_wp2_with (first | (go_at_call 57; refine (bit01_any _ _ _ (by omega) (by omega) (by omega)).mono ?_; rintro e wr ⟨rfl, hbr⟩; obtain ⟨y, rfl⟩ := Ext.step _ hbr; clear hbr))
        go_roundg g
        case measure => omega
        case rel => exact ⟨j + 1, _, by omega, by rw [bs, HZ.out]; simp [hx], by rw [← wrap_unit2, IntKind.wrap_u32], by go_num, rfl⟩
    · obtain rfl : j = c := by omega
      by_cases h3 : low + j < 32
      · have d3 : decide (low + j < 32) = true := by simpa using h3
        have d4 : decide (low + j - low < width) = false := by simp; omega
        clear hc hj hlt
        go_wp2
        go_ret
        exact ⟨rfl, Ext.ok _⟩
      · have d3 : decide (low + j < 32) = false := by simpa using h3
        clear hc hj hlt
        go_wp2
        go_ret
        exact ⟨rfl, Ext.ok _⟩
set_option maxHeartbeats 4000000 in
set_option maxRecDepth 100000 in
theorem rField_any (n low width : Int) (w : World) (n0 : 0 ≤ n) (n1 : n ≤ 4294967295) (l0 : -9223372036854775808 ≤ low) (l1 : low ≤ 9223372036854775807) (w0 : -9223372036854775808 ≤ width) (w1 : width ≤ 9223372036854775807) :
    Calls Tryd.prog 22 #[.int .u32 n, .int .i64 low, .int .i64 width] w fun e w' => e = .returned (.int .u32 (fieldI n low width)) ∧ Below w.heap.size w w' := by
  by_cases h : okF low width
  · have := rField_aux _ n low width (Lib.hid rfl) _ rfl h w n0 n1 w1
    rw [fieldI, if_pos h]
    exact this
  by_cases h1 : low < 0
  · have e1 : 0 = fieldI n low width := by rw [fieldI, if_neg h]
    have E1 := Lib.hid e1
    clear e1 h
    have d1 : decide (0 ≤ low) = false := by simp; omega
    go_enter Tryd.func22, Tryd.ntmps22
    go_wp2
    refine wp_loop_rounds 1 ?_
    rw [rounds_succ]; go_wp2
    go_ret
    exact ⟨ret_int E1.out, Below.refl _ _⟩
  by_cases h1 : 32 ≤ low
  · have e1 : 0 = fieldI n low width := by rw [fieldI, if_neg h]
    have E1 := Lib.hid e1
    clear e1 h
    have d1 : decide (0 ≤ low) = true := by simp; omega
    have d2 : decide (low < 32) = false := by simp; omega
    go_enter Tryd.func22, Tryd.ntmps22
    go_wp2
    refine wp_loop_rounds 1 ?_
    rw [rounds_succ]; go_wp2
    go_ret
    exact ⟨ret_int E1.out, Below.refl _ _⟩
  have e1 : 0 = fieldI n low width := by rw [fieldI, if_neg h]
  have E1 := Lib.hid e1
  have h3 : width < 1 := by unfold okF at h; omega
  clear e1 h
  have d1 : decide (0 ≤ low) = true := by simp; omega
  have d2 : decide (low < 32) = true := by simp; omega
  have d4 : decide (0 < width) = false := by simp; omega
  go_enter Tryd.func22, Tryd.ntmps22
  go_wp2
  refine wp_loop_rounds 1 ?_
  rw [rounds_succ]; go_wp2
  go_ret
  exact ⟨ret_int E1.out, Below.refl _ _⟩
set_option maxHeartbeats 4000000 in
set_option maxRecDepth 100000 in
theorem rPut_aux (Z : Nat → Bool) (n low width v : Int) (HZ : Hid (Z = putF n low width v)) (h : okF low width) (w : World) (n0 : 0 ≤ n) (n1 : n ≤ 4294967295) (v0 : 0 ≤ v) (v1 : v ≤ 4294967295) (w1 : width ≤ 9223372036854775807) :
    Calls Tryd.prog 23 #[.int .u32 n, .int .i64 low, .int .i64 width, .int .u32 v] w fun e w' => e = .returned (.int .u32 (bs Z 32)) ∧ Below w.heap.size w w' := by
  obtain ⟨g0, g1, g2⟩ := h
  have d1 : decide (low < 0) = false := by simpa using g0
  have d2 : decide (31 < low) = false := by simp; omega
  have d3 : decide (width < 1) = false := by simp; omega
  go_enter Tryd.func23, Tryd.ntmps23
  go_wp2
  go_loopg [9, 10, 11] 32 (fun g out unit i wr => ∃ (j : Nat) (y : Ext w.heap.size w), j + g = 32 ∧ out = .int .u32 (bs Z j) ∧ unit = .int .u32 (IntKind.u32.wrap (2 ^ j)) ∧ i = .int .i64 j ∧ wr = y.world)
  case atStart => exact ⟨0, ⟨w, Below.refl _ _⟩, by omega, rfl, rfl, rfl, rfl⟩
  case round =>
    obtain ⟨j, y, hj, rfl, rfl, rfl, rfl⟩ := hrel
    obtain ⟨z0, z1⟩ := bs_range Z j
    by_cases hlt : j < 32
    · obtain ⟨p0, p1⟩ := pow_small j hlt
      have eu := wrap_unit j hlt
      cases gk with
      | zero => omega
      | succ g =>
      by_cases ha : low ≤ (j : Int)
      · have en : ((j : Int) - low).toNat = j - low.toNat := by omega
        have d4 : decide (low ≤ (j : Int)) = true := by simpa using ha
        by_cases hb : (j : Int) - low < width
        · have d5 : decide ((j : Int) - low < width) = true := by simpa using hb
          have hin : inF low width j = true := by rw [inF, d4, d5]; rfl
          have HN := Lib.hid hin
          clear hin
          rcases Bool.eq_false_or_eq_true (bitI v (j - low.toNat)) with hx | hx
          all_goals
            go_wp2_with (first | (go_at_call 57; refine (bit01_any _ _ _ (by omega) (by omega) (by omega)).mono ?_; rintro e wr ⟨rfl, hbr⟩; obtain ⟨y, rfl⟩ := Ext.step _ hbr; clear hbr))
            go_roundg g
            case measure => omega
            case rel => exact ⟨j + 1, _, by omega, by rw [bs, HZ.out, putF, if_pos HN.out, hx]; simp, by rw [← wrap_unit2, IntKind.wrap_u32], by go_num, rfl⟩
        · have d5 : decide ((j : Int) - low < width) = false := by simpa using hb
          have hin : ¬ inF low width j = true := by rw [inF, d4, d5]; simp
          have HN := Lib.hid hin
          clear hin
          rcases Bool.eq_false_or_eq_true (bitI n j) with hx | hx
          all_goals
            go_wp2_with (first | (go_at_call 57; refine (bit01_any _ _ _ (by omega) (by omega) (by omega)).mono ?_; rintro e wr ⟨rfl, hbr⟩; obtain ⟨y, rfl⟩ := Ext.step _ hbr; clear hbr))
            go_roundg g
            case measure => omega
            case rel => exact ⟨j + 1, _, by omega, by rw [bs, HZ.out, putF, if_neg HN.out, hx]; simp, by rw [← wrap_unit2, IntKind.wrap_u32], by go_num, rfl⟩
      · have d4 : decide (low ≤ (j : Int)) = false := by simpa using ha
        have hin : ¬ inF low width j = true := by rw [inF, d4]; simp
        have HN := Lib.hid hin
        clear hin
        rcases Bool.eq_false_or_eq_true (bitI n j) with hx | hx
        all_goals
          go_wp2_with (first | (go_at_call 57; refine (bit01_any _ _ _ (by omega) (by omega) (by omega)).mono ?_; rintro e wr ⟨rfl, hbr⟩; obtain ⟨y, rfl⟩ := Ext.step _ hbr; clear hbr))
          go_roundg g
          case measure => omega
          case rel => exact ⟨j + 1, _, by omega, by rw [bs, HZ.out, putF, if_neg HN.out, hx]; simp, by rw [← wrap_unit2, IntKind.wrap_u32], by go_num, rfl⟩
    · obtain rfl : j = 32 := by omega
      go_wp2
      go_ret
      exact ⟨rfl, Ext.ok _⟩
set_option maxHeartbeats 4000000 in
set_option maxRecDepth 100000 in
theorem rPut_any (n low width v : Int) (w : World) (n0 : 0 ≤ n) (n1 : n ≤ 4294967295) (v0 : 0 ≤ v) (v1 : v ≤ 4294967295) (l0 : -9223372036854775808 ≤ low) (l1 : low ≤ 9223372036854775807) (w0 : -9223372036854775808 ≤ width) (w1 : width ≤ 9223372036854775807) :
    Calls Tryd.prog 23 #[.int .u32 n, .int .i64 low, .int .i64 width, .int .u32 v] w fun e w' => e = .returned (.int .u32 (putI n low width v)) ∧ Below w.heap.size w w' := by
  by_cases h : low < 0
  · have g1 : decide (low < 0) = true := by simp; omega
    have e1 : n = putI n low width v := by rw [putI, if_neg (by unfold okF; omega)]
    have E1 := Lib.hid e1
    clear e1
    go_enter Tryd.func23, Tryd.ntmps23
    go_wp2
    go_ret
    exact ⟨ret_int E1.out, Below.refl _ _⟩
  by_cases h : 32 ≤ low
  · have g1 : decide (low < 0) = false := by simp; omega
    have g2 : decide (31 < low) = true := by simp; omega
    have e1 : n = putI n low width v := by rw [putI, if_neg (by unfold okF; omega)]
    have E1 := Lib.hid e1
    clear e1
    go_enter Tryd.func23, Tryd.ntmps23
    go_wp2
    go_ret
    exact ⟨ret_int E1.out, Below.refl _ _⟩
  by_cases h : width < 1
  · have g1 : decide (low < 0) = false := by simp; omega
    have g2 : decide (31 < low) = false := by simp; omega
    have g3 : decide (width < 1) = true := by simp; omega
    have e1 : n = putI n low width v := by rw [putI, if_neg (by unfold okF; omega)]
    have E1 := Lib.hid e1
    clear e1
    go_enter Tryd.func23, Tryd.ntmps23
    go_wp2
    go_ret
    exact ⟨ret_int E1.out, Below.refl _ _⟩
  have h : okF low width := ⟨by omega, by omega, by omega⟩
  have := rPut_aux _ n low width v (Lib.hid rfl) h w n0 n1 v0 v1 w1
  rw [putI, if_pos h]
  exact this
set_option maxHeartbeats 4000000 in
set_option maxRecDepth 100000 in
theorem BitsFields_walk (a s n v low width : Int) (w : World) (hT : Tab w) (h0 : 0 ≤ a) (h1 : a ≤ 18446744073709551615) (s0 : -9223372036854775808 ≤ s) (s1 : s ≤ 9223372036854775807)
    (n0 : 0 ≤ n) (n1 : n ≤ 4294967295) (v0 : 0 ≤ v) (v1 : v ≤ 4294967295) (l0 : -9223372036854775808 ≤ low) (l1 : low ≤ 9223372036854775807) (w0 : -9223372036854775808 ≤ width) (w1 : width ≤ 9223372036854775807) :
    Calls Tryd.prog 5 #[.int .u64 a, .int .i64 s, .int .u32 n, .int .u32 v, .int .i64 low, .int .i64 width] w fun e w' => e = .returned (.bool true) ∧ Below w.heap.size w w' := by
  have hb := put_back (n := n) (low := low) (width := width) (v := v) n0 n1
  obtain ⟨p0, p1⟩ := put_range (n := n) (low := low) (width := width) (v := v) n0 n1
  obtain ⟨f0, f1⟩ := field_range (n := n) (low := low) (width := width)
  have HT := Lib.hid hT
  clear hT
  go_enter Tryd.func5, Tryd.ntmps5
  refine wp_start ?_
  intro x
  go_wp2_with (first | (go_at_call 10; refine (known01 _ (HT.out.at _)).mono ?_; rintro e wr ⟨rfl, hbr⟩; obtain ⟨y, rfl⟩ := Ext.step _ hbr; clear hbr) | (go_at_call 18; refine (Put_any _ _ _ _ _ (by omega) (by omega) (by omega) (by omega) l0 l1 w0 w1).mono ?_; rintro e wr ⟨rfl, hbr⟩; obtain ⟨y, rfl⟩ := Ext.step _ hbr; clear hbr) | (go_at_call 23; refine (rPut_any _ _ _ _ _ n0 n1 v0 v1 l0 l1 w0 w1).mono ?_; rintro e wr ⟨rfl, hbr⟩; obtain ⟨y, rfl⟩ := Ext.step _ hbr; clear hbr) | (go_at_call 21; refine (Field_any _ _ _ _ n0 n1 l0 l1 w0 w1).mono ?_; rintro e wr ⟨rfl, hbr⟩; obtain ⟨y, rfl⟩ := Ext.step _ hbr; clear hbr) | (go_at_call 22; refine (rField_any _ _ _ _ n0 n1 l0 l1 w0 w1).mono ?_; rintro e wr ⟨rfl, hbr⟩; obtain ⟨y, rfl⟩ := Ext.step _ hbr; clear hbr) | (go_at_call 19; refine (first_any _ _ _ h0 h1 (HT.out.at _)).mono ?_; rintro e wr ⟨rfl, hbr⟩; obtain ⟨y, rfl⟩ := Ext.step _ hbr; clear hbr) | (go_at_call 20; refine (rfirst_any _ _ _ h0 h1 s1).mono ?_; rintro e wr ⟨rfl, hbr⟩; obtain ⟨y, rfl⟩ := Ext.step _ hbr; clear hbr))
  go_ret
  exact ⟨rfl, Ext.ok _⟩
end Go.Proofs.YtnoafhfidecppaaDoor
