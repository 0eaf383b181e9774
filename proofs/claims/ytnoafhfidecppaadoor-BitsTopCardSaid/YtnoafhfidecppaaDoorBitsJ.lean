/- The walk of the law BitsTop. -/
import Derived.Test.YtnoafhfidecppaaDoorBitsH
namespace Go.Proofs.YtnoafhfidecppaaDoor
open Go.RowKit
set_option linter.unusedVariables false
set_option linter.unusedSimpArgs false
theorem bt0 {x y : Int} (h : x ≤ y) (h0 : 0 ≤ x) (h1 : y ≤ 18446744073709551615) (e : x / 64 = y / 64) (n : x ≠ y) :
    digitI y 1 = digitI x 1 ∧ digitI y 2 = digitI x 2 ∧ digitI y 3 = digitI x 3 ∧ digitI y 4 = digitI x 4 ∧ digitI y 5 = digitI x 5 ∧ digitI y 6 = digitI x 6 ∧ digitI y 7 = digitI x 7 ∧ digitI x 0 < digitI y 0 ∧ x < withI x 0 (digitI y 0) ∧ withI x 0 (digitI y 0) ≤ y := by
  have dx0 : digitI x 0 = x % 64 := by simp [digitI]
  have dy0 : digitI y 0 = y % 64 := by simp [digitI]
  have dx1 : digitI x 1 = x / 64 % 64 := by simp [digitI]
  have dy1 : digitI y 1 = y / 64 % 64 := by simp [digitI]
  have dx2 : digitI x 2 = x / 4096 % 64 := by simp [digitI]
  have dy2 : digitI y 2 = y / 4096 % 64 := by simp [digitI]
  have dx3 : digitI x 3 = x / 262144 % 64 := by simp [digitI]
  have dy3 : digitI y 3 = y / 262144 % 64 := by simp [digitI]
  have dx4 : digitI x 4 = x / 16777216 % 64 := by simp [digitI]
  have dy4 : digitI y 4 = y / 16777216 % 64 := by simp [digitI]
  have dx5 : digitI x 5 = x / 1073741824 % 64 := by simp [digitI]
  have dy5 : digitI y 5 = y / 1073741824 % 64 := by simp [digitI]
  have dx6 : digitI x 6 = x / 68719476736 % 64 := by simp [digitI]
  have dy6 : digitI y 6 = y / 68719476736 % 64 := by simp [digitI]
  have dx7 : digitI x 7 = x / 4398046511104 % 64 := by simp [digitI]
  have dy7 : digitI y 7 = y / 4398046511104 % 64 := by simp [digitI]
  have w : ∀ d, withI x 0 d = x / 64 * 64 + d % 64 := fun d => by simp [withI]
  rw [w, dx0, dy0, dx1, dy1, dx2, dy2, dx3, dy3, dx4, dy4, dx5, dy5, dx6, dy6, dx7, dy7]
  clear w dx0 dy0 dx1 dy1 dx2 dy2 dx3 dy3 dx4 dy4 dx5 dy5 dx6 dy6 dx7 dy7
  refine ⟨by omega, by omega, by omega, by omega, by omega, by omega, by omega, by omega, by omega, by omega⟩
theorem bt1 {x y : Int} (h : x ≤ y) (h0 : 0 ≤ x) (h1 : y ≤ 18446744073709551615) (e : x / 4096 = y / 4096) (n : x / 64 ≠ y / 64) :
    digitI y 2 = digitI x 2 ∧ digitI y 3 = digitI x 3 ∧ digitI y 4 = digitI x 4 ∧ digitI y 5 = digitI x 5 ∧ digitI y 6 = digitI x 6 ∧ digitI y 7 = digitI x 7 ∧ digitI x 1 < digitI y 1 ∧ x < withI x 1 (digitI y 1) ∧ withI x 1 (digitI y 1) ≤ y := by
  have dx1 : digitI x 1 = x / 64 % 64 := by simp [digitI]
  have dy1 : digitI y 1 = y / 64 % 64 := by simp [digitI]
  have dx2 : digitI x 2 = x / 4096 % 64 := by simp [digitI]
  have dy2 : digitI y 2 = y / 4096 % 64 := by simp [digitI]
  have dx3 : digitI x 3 = x / 262144 % 64 := by simp [digitI]
  have dy3 : digitI y 3 = y / 262144 % 64 := by simp [digitI]
  have dx4 : digitI x 4 = x / 16777216 % 64 := by simp [digitI]
  have dy4 : digitI y 4 = y / 16777216 % 64 := by simp [digitI]
  have dx5 : digitI x 5 = x / 1073741824 % 64 := by simp [digitI]
  have dy5 : digitI y 5 = y / 1073741824 % 64 := by simp [digitI]
  have dx6 : digitI x 6 = x / 68719476736 % 64 := by simp [digitI]
  have dy6 : digitI y 6 = y / 68719476736 % 64 := by simp [digitI]
  have dx7 : digitI x 7 = x / 4398046511104 % 64 := by simp [digitI]
  have dy7 : digitI y 7 = y / 4398046511104 % 64 := by simp [digitI]
  have w : ∀ d, withI x 1 d = x / 4096 * 4096 + d % 64 * 64 := fun d => by simp [withI]
  rw [w, dx1, dy1, dx2, dy2, dx3, dy3, dx4, dy4, dx5, dy5, dx6, dy6, dx7, dy7]
  clear w dx1 dy1 dx2 dy2 dx3 dy3 dx4 dy4 dx5 dy5 dx6 dy6 dx7 dy7
  refine ⟨by omega, by omega, by omega, by omega, by omega, by omega, by omega, by omega, by omega⟩
theorem bt2 {x y : Int} (h : x ≤ y) (h0 : 0 ≤ x) (h1 : y ≤ 18446744073709551615) (e : x / 262144 = y / 262144) (n : x / 4096 ≠ y / 4096) :
    digitI y 3 = digitI x 3 ∧ digitI y 4 = digitI x 4 ∧ digitI y 5 = digitI x 5 ∧ digitI y 6 = digitI x 6 ∧ digitI y 7 = digitI x 7 ∧ digitI x 2 < digitI y 2 ∧ x < withI x 2 (digitI y 2) ∧ withI x 2 (digitI y 2) ≤ y := by
  have dx2 : digitI x 2 = x / 4096 % 64 := by simp [digitI]
  have dy2 : digitI y 2 = y / 4096 % 64 := by simp [digitI]
  have dx3 : digitI x 3 = x / 262144 % 64 := by simp [digitI]
  have dy3 : digitI y 3 = y / 262144 % 64 := by simp [digitI]
  have dx4 : digitI x 4 = x / 16777216 % 64 := by simp [digitI]
  have dy4 : digitI y 4 = y / 16777216 % 64 := by simp [digitI]
  have dx5 : digitI x 5 = x / 1073741824 % 64 := by simp [digitI]
  have dy5 : digitI y 5 = y / 1073741824 % 64 := by simp [digitI]
  have dx6 : digitI x 6 = x / 68719476736 % 64 := by simp [digitI]
  have dy6 : digitI y 6 = y / 68719476736 % 64 := by simp [digitI]
  have dx7 : digitI x 7 = x / 4398046511104 % 64 := by simp [digitI]
  have dy7 : digitI y 7 = y / 4398046511104 % 64 := by simp [digitI]
  have w : ∀ d, withI x 2 d = x / 262144 * 262144 + d % 64 * 4096 := fun d => by simp [withI]
  rw [w, dx2, dy2, dx3, dy3, dx4, dy4, dx5, dy5, dx6, dy6, dx7, dy7]
  clear w dx2 dy2 dx3 dy3 dx4 dy4 dx5 dy5 dx6 dy6 dx7 dy7
  refine ⟨by omega, by omega, by omega, by omega, by omega, by omega, by omega, by omega⟩
theorem bt3 {x y : Int} (h : x ≤ y) (h0 : 0 ≤ x) (h1 : y ≤ 18446744073709551615) (e : x / 16777216 = y / 16777216) (n : x / 262144 ≠ y / 262144) :
    digitI y 4 = digitI x 4 ∧ digitI y 5 = digitI x 5 ∧ digitI y 6 = digitI x 6 ∧ digitI y 7 = digitI x 7 ∧ digitI x 3 < digitI y 3 ∧ x < withI x 3 (digitI y 3) ∧ withI x 3 (digitI y 3) ≤ y := by
  have dx3 : digitI x 3 = x / 262144 % 64 := by simp [digitI]
  have dy3 : digitI y 3 = y / 262144 % 64 := by simp [digitI]
  have dx4 : digitI x 4 = x / 16777216 % 64 := by simp [digitI]
  have dy4 : digitI y 4 = y / 16777216 % 64 := by simp [digitI]
  have dx5 : digitI x 5 = x / 1073741824 % 64 := by simp [digitI]
  have dy5 : digitI y 5 = y / 1073741824 % 64 := by simp [digitI]
  have dx6 : digitI x 6 = x / 68719476736 % 64 := by simp [digitI]
  have dy6 : digitI y 6 = y / 68719476736 % 64 := by simp [digitI]
  have dx7 : digitI x 7 = x / 4398046511104 % 64 := by simp [digitI]
  have dy7 : digitI y 7 = y / 4398046511104 % 64 := by simp [digitI]
  have w : ∀ d, withI x 3 d = x / 16777216 * 16777216 + d % 64 * 262144 := fun d => by simp [withI]
  rw [w, dx3, dy3, dx4, dy4, dx5, dy5, dx6, dy6, dx7, dy7]
  clear w dx3 dy3 dx4 dy4 dx5 dy5 dx6 dy6 dx7 dy7
  refine ⟨by omega, by omega, by omega, by omega, by omega, by omega, by omega⟩
theorem bt4 {x y : Int} (h : x ≤ y) (h0 : 0 ≤ x) (h1 : y ≤ 18446744073709551615) (e : x / 1073741824 = y / 1073741824) (n : x / 16777216 ≠ y / 16777216) :
    digitI y 5 = digitI x 5 ∧ digitI y 6 = digitI x 6 ∧ digitI y 7 = digitI x 7 ∧ digitI x 4 < digitI y 4 ∧ x < withI x 4 (digitI y 4) ∧ withI x 4 (digitI y 4) ≤ y := by
  have dx4 : digitI x 4 = x / 16777216 % 64 := by simp [digitI]
  have dy4 : digitI y 4 = y / 16777216 % 64 := by simp [digitI]
  have dx5 : digitI x 5 = x / 1073741824 % 64 := by simp [digitI]
  have dy5 : digitI y 5 = y / 1073741824 % 64 := by simp [digitI]
  have dx6 : digitI x 6 = x / 68719476736 % 64 := by simp [digitI]
  have dy6 : digitI y 6 = y / 68719476736 % 64 := by simp [digitI]
  have dx7 : digitI x 7 = x / 4398046511104 % 64 := by simp [digitI]
  have dy7 : digitI y 7 = y / 4398046511104 % 64 := by simp [digitI]
  have w : ∀ d, withI x 4 d = x / 1073741824 * 1073741824 + d % 64 * 16777216 := fun d => by simp [withI]
  rw [w, dx4, dy4, dx5, dy5, dx6, dy6, dx7, dy7]
  clear w dx4 dy4 dx5 dy5 dx6 dy6 dx7 dy7
  refine ⟨by omega, by omega, by omega, by omega, by omega, by omega⟩
theorem bt5 {x y : Int} (h : x ≤ y) (h0 : 0 ≤ x) (h1 : y ≤ 18446744073709551615) (e : x / 68719476736 = y / 68719476736) (n : x / 1073741824 ≠ y / 1073741824) :
    digitI y 6 = digitI x 6 ∧ digitI y 7 = digitI x 7 ∧ digitI x 5 < digitI y 5 ∧ x < withI x 5 (digitI y 5) ∧ withI x 5 (digitI y 5) ≤ y := by
  have dx5 : digitI x 5 = x / 1073741824 % 64 := by simp [digitI]
  have dy5 : digitI y 5 = y / 1073741824 % 64 := by simp [digitI]
  have dx6 : digitI x 6 = x / 68719476736 % 64 := by simp [digitI]
  have dy6 : digitI y 6 = y / 68719476736 % 64 := by simp [digitI]
  have dx7 : digitI x 7 = x / 4398046511104 % 64 := by simp [digitI]
  have dy7 : digitI y 7 = y / 4398046511104 % 64 := by simp [digitI]
  have w : ∀ d, withI x 5 d = x / 68719476736 * 68719476736 + d % 64 * 1073741824 := fun d => by simp [withI]
  rw [w, dx5, dy5, dx6, dy6, dx7, dy7]
  clear w dx5 dy5 dx6 dy6 dx7 dy7
  refine ⟨by omega, by omega, by omega, by omega, by omega⟩
theorem bt6 {x y : Int} (h : x ≤ y) (h0 : 0 ≤ x) (h1 : y ≤ 18446744073709551615) (e : x / 4398046511104 = y / 4398046511104) (n : x / 68719476736 ≠ y / 68719476736) :
    digitI y 7 = digitI x 7 ∧ digitI x 6 < digitI y 6 ∧ x < withI x 6 (digitI y 6) ∧ withI x 6 (digitI y 6) ≤ y := by
  have dx6 : digitI x 6 = x / 68719476736 % 64 := by simp [digitI]
  have dy6 : digitI y 6 = y / 68719476736 % 64 := by simp [digitI]
  have dx7 : digitI x 7 = x / 4398046511104 % 64 := by simp [digitI]
  have dy7 : digitI y 7 = y / 4398046511104 % 64 := by simp [digitI]
  have w : ∀ d, withI x 6 d = x / 4398046511104 * 4398046511104 + d % 64 * 68719476736 := fun d => by simp [withI]
  rw [w, dx6, dy6, dx7, dy7]
  clear w dx6 dy6 dx7 dy7
  refine ⟨by omega, by omega, by omega, by omega⟩
theorem bt7 {x y : Int} (h : x ≤ y) (h0 : 0 ≤ x) (h1 : y ≤ 18446744073709551615) (e : x / 281474976710656 = y / 281474976710656) (n : x / 4398046511104 ≠ y / 4398046511104) :
    digitI x 7 < digitI y 7 ∧ x < withI x 7 (digitI y 7) ∧ withI x 7 (digitI y 7) ≤ y := by
  have dx7 : digitI x 7 = x / 4398046511104 % 64 := by simp [digitI]
  have dy7 : digitI y 7 = y / 4398046511104 % 64 := by simp [digitI]
  have w : ∀ d, withI x 7 d = x / 281474976710656 * 281474976710656 + d % 64 * 4398046511104 := fun d => by simp [withI]
  rw [w, dx7, dy7]
  clear w dx7 dy7
  refine ⟨by omega, by omega, by omega⟩
theorem lt_of_ne {a b : Int} (h : a ≤ b) (n : a ≠ b) : a < b := by omega
set_option maxHeartbeats 4000000 in
set_option maxRecDepth 100000 in
theorem bt_u0 (a b : Int) (w : World) (HT : Hid (Tab w)) (h0 : 0 ≤ a) (h1 : a ≤ 18446744073709551615) (k0 : 0 ≤ b) (k1 : b ≤ 18446744073709551615) (ho : a < b) (t : topI a b = 0) (e : a / 64 = b / 64) (n : a ≠ b) :
    Calls Tryd.prog 4 #[.int .u64 a, .int .u64 b] w fun e w' => e = .returned (.bool true) ∧ Below w.heap.size w w' := by
  obtain ⟨e1, e2, e3, e4, e5, e6, e7, g1, g2, g3⟩ := bt0 (x := a) (y := b) (by omega) (by omega) (by omega) e n
  have f1 : decide (digitI a 0 < digitI b 0) = true := by simpa using g1
  have f2 : decide (a < withI a 0 (digitI b 0)) = true := by simpa using g2
  have f3 : decide (withI a 0 (digitI b 0) ≤ b) = true := by simpa using g3
  clear e n g1 g2 g3
  go_enter Tryd.func4, Tryd.ntmps4
  refine wp_start ?_
  intro x
  go_wp2_with (first | (go_at_call 15; refine (top_any _ _ _ (by omega) (by omega) (by omega) (by omega)).mono ?_; rintro e wr ⟨rfl, hbr⟩; obtain ⟨y, rfl⟩ := Ext.step _ hbr; clear hbr) | (go_at_call 11; refine (digit_any _ _ _ (by omega) (by omega)).mono ?_; rintro e wr ⟨rfl, hbr⟩; obtain ⟨y, rfl⟩ := Ext.step _ hbr; clear hbr) | (go_at_call 13; refine (with_any _ _ _ _ (by omega) (by omega)).mono ?_; rintro e wr ⟨rfl, hbr⟩; obtain ⟨y, rfl⟩ := Ext.step _ hbr; clear hbr) | (go_at_call 10; refine (known01 _ (HT.out.at _)).mono ?_; rintro e wr ⟨rfl, hbr⟩; obtain ⟨y, rfl⟩ := Ext.step _ hbr; clear hbr))
  refine wp_loop_rounds 8 ?_
  repeat (rw [rounds_succ]; go_wp2_with (first | (go_at_call 15; refine (top_any _ _ _ (by omega) (by omega) (by omega) (by omega)).mono ?_; rintro e wr ⟨rfl, hbr⟩; obtain ⟨y, rfl⟩ := Ext.step _ hbr; clear hbr) | (go_at_call 11; refine (digit_any _ _ _ (by omega) (by omega)).mono ?_; rintro e wr ⟨rfl, hbr⟩; obtain ⟨y, rfl⟩ := Ext.step _ hbr; clear hbr) | (go_at_call 13; refine (with_any _ _ _ _ (by omega) (by omega)).mono ?_; rintro e wr ⟨rfl, hbr⟩; obtain ⟨y, rfl⟩ := Ext.step _ hbr; clear hbr) | (go_at_call 10; refine (known01 _ (HT.out.at _)).mono ?_; rintro e wr ⟨rfl, hbr⟩; obtain ⟨y, rfl⟩ := Ext.step _ hbr; clear hbr)))
  go_ret
  exact ⟨rfl, Ext.ok _⟩
set_option maxHeartbeats 4000000 in
set_option maxRecDepth 100000 in
theorem bt_u1 (a b : Int) (w : World) (HT : Hid (Tab w)) (h0 : 0 ≤ a) (h1 : a ≤ 18446744073709551615) (k0 : 0 ≤ b) (k1 : b ≤ 18446744073709551615) (ho : a < b) (t : topI a b = 1) (e : a / 4096 = b / 4096) (n : a / 64 ≠ b / 64) :
    Calls Tryd.prog 4 #[.int .u64 a, .int .u64 b] w fun e w' => e = .returned (.bool true) ∧ Below w.heap.size w w' := by
  obtain ⟨e2, e3, e4, e5, e6, e7, g1, g2, g3⟩ := bt1 (x := a) (y := b) (by omega) (by omega) (by omega) e n
  have f1 : decide (digitI a 1 < digitI b 1) = true := by simpa using g1
  have f2 : decide (a < withI a 1 (digitI b 1)) = true := by simpa using g2
  have f3 : decide (withI a 1 (digitI b 1) ≤ b) = true := by simpa using g3
  clear e n g1 g2 g3
  go_enter Tryd.func4, Tryd.ntmps4
  refine wp_start ?_
  intro x
  go_wp2_with (first | (go_at_call 15; refine (top_any _ _ _ (by omega) (by omega) (by omega) (by omega)).mono ?_; rintro e wr ⟨rfl, hbr⟩; obtain ⟨y, rfl⟩ := Ext.step _ hbr; clear hbr) | (go_at_call 11; refine (digit_any _ _ _ (by omega) (by omega)).mono ?_; rintro e wr ⟨rfl, hbr⟩; obtain ⟨y, rfl⟩ := Ext.step _ hbr; clear hbr) | (go_at_call 13; refine (with_any _ _ _ _ (by omega) (by omega)).mono ?_; rintro e wr ⟨rfl, hbr⟩; obtain ⟨y, rfl⟩ := Ext.step _ hbr; clear hbr) | (go_at_call 10; refine (known01 _ (HT.out.at _)).mono ?_; rintro e wr ⟨rfl, hbr⟩; obtain ⟨y, rfl⟩ := Ext.step _ hbr; clear hbr))
  refine wp_loop_rounds 7 ?_
  repeat (rw [rounds_succ]; go_wp2_with (first | (go_at_call 15; refine (top_any _ _ _ (by omega) (by omega) (by omega) (by omega)).mono ?_; rintro e wr ⟨rfl, hbr⟩; obtain ⟨y, rfl⟩ := Ext.step _ hbr; clear hbr) | (go_at_call 11; refine (digit_any _ _ _ (by omega) (by omega)).mono ?_; rintro e wr ⟨rfl, hbr⟩; obtain ⟨y, rfl⟩ := Ext.step _ hbr; clear hbr) | (go_at_call 13; refine (with_any _ _ _ _ (by omega) (by omega)).mono ?_; rintro e wr ⟨rfl, hbr⟩; obtain ⟨y, rfl⟩ := Ext.step _ hbr; clear hbr) | (go_at_call 10; refine (known01 _ (HT.out.at _)).mono ?_; rintro e wr ⟨rfl, hbr⟩; obtain ⟨y, rfl⟩ := Ext.step _ hbr; clear hbr)))
  go_ret
  exact ⟨rfl, Ext.ok _⟩
set_option maxHeartbeats 4000000 in
set_option maxRecDepth 100000 in
theorem bt_u2 (a b : Int) (w : World) (HT : Hid (Tab w)) (h0 : 0 ≤ a) (h1 : a ≤ 18446744073709551615) (k0 : 0 ≤ b) (k1 : b ≤ 18446744073709551615) (ho : a < b) (t : topI a b = 2) (e : a / 262144 = b / 262144) (n : a / 4096 ≠ b / 4096) :
    Calls Tryd.prog 4 #[.int .u64 a, .int .u64 b] w fun e w' => e = .returned (.bool true) ∧ Below w.heap.size w w' := by
  obtain ⟨e3, e4, e5, e6, e7, g1, g2, g3⟩ := bt2 (x := a) (y := b) (by omega) (by omega) (by omega) e n
  have f1 : decide (digitI a 2 < digitI b 2) = true := by simpa using g1
  have f2 : decide (a < withI a 2 (digitI b 2)) = true := by simpa using g2
  have f3 : decide (withI a 2 (digitI b 2) ≤ b) = true := by simpa using g3
  clear e n g1 g2 g3
  go_enter Tryd.func4, Tryd.ntmps4
  refine wp_start ?_
  intro x
  go_wp2_with (first | (go_at_call 15; refine (top_any _ _ _ (by omega) (by omega) (by omega) (by omega)).mono ?_; rintro e wr ⟨rfl, hbr⟩; obtain ⟨y, rfl⟩ := Ext.step _ hbr; clear hbr) | (go_at_call 11; refine (digit_any _ _ _ (by omega) (by omega)).mono ?_; rintro e wr ⟨rfl, hbr⟩; obtain ⟨y, rfl⟩ := Ext.step _ hbr; clear hbr) | (go_at_call 13; refine (with_any _ _ _ _ (by omega) (by omega)).mono ?_; rintro e wr ⟨rfl, hbr⟩; obtain ⟨y, rfl⟩ := Ext.step _ hbr; clear hbr) | (go_at_call 10; refine (known01 _ (HT.out.at _)).mono ?_; rintro e wr ⟨rfl, hbr⟩; obtain ⟨y, rfl⟩ := Ext.step _ hbr; clear hbr))
  refine wp_loop_rounds 6 ?_
  repeat (rw [rounds_succ]; go_wp2_with (first | (go_at_call 15; refine (top_any _ _ _ (by omega) (by omega) (by omega) (by omega)).mono ?_; rintro e wr ⟨rfl, hbr⟩; obtain ⟨y, rfl⟩ := Ext.step _ hbr; clear hbr) | (go_at_call 11; refine (digit_any _ _ _ (by omega) (by omega)).mono ?_; rintro e wr ⟨rfl, hbr⟩; obtain ⟨y, rfl⟩ := Ext.step _ hbr; clear hbr) | (go_at_call 13; refine (with_any _ _ _ _ (by omega) (by omega)).mono ?_; rintro e wr ⟨rfl, hbr⟩; obtain ⟨y, rfl⟩ := Ext.step _ hbr; clear hbr) | (go_at_call 10; refine (known01 _ (HT.out.at _)).mono ?_; rintro e wr ⟨rfl, hbr⟩; obtain ⟨y, rfl⟩ := Ext.step _ hbr; clear hbr)))
  go_ret
  exact ⟨rfl, Ext.ok _⟩
set_option maxHeartbeats 4000000 in
set_option maxRecDepth 100000 in
theorem bt_u3 (a b : Int) (w : World) (HT : Hid (Tab w)) (h0 : 0 ≤ a) (h1 : a ≤ 18446744073709551615) (k0 : 0 ≤ b) (k1 : b ≤ 18446744073709551615) (ho : a < b) (t : topI a b = 3) (e : a / 16777216 = b / 16777216) (n : a / 262144 ≠ b / 262144) :
    Calls Tryd.prog 4 #[.int .u64 a, .int .u64 b] w fun e w' => e = .returned (.bool true) ∧ Below w.heap.size w w' := by
  obtain ⟨e4, e5, e6, e7, g1, g2, g3⟩ := bt3 (x := a) (y := b) (by omega) (by omega) (by omega) e n
  have f1 : decide (digitI a 3 < digitI b 3) = true := by simpa using g1
  have f2 : decide (a < withI a 3 (digitI b 3)) = true := by simpa using g2
  have f3 : decide (withI a 3 (digitI b 3) ≤ b) = true := by simpa using g3
  clear e n g1 g2 g3
  go_enter Tryd.func4, Tryd.ntmps4
  refine wp_start ?_
  intro x
  go_wp2_with (first | (go_at_call 15; refine (top_any _ _ _ (by omega) (by omega) (by omega) (by omega)).mono ?_; rintro e wr ⟨rfl, hbr⟩; obtain ⟨y, rfl⟩ := Ext.step _ hbr; clear hbr) | (go_at_call 11; refine (digit_any _ _ _ (by omega) (by omega)).mono ?_; rintro e wr ⟨rfl, hbr⟩; obtain ⟨y, rfl⟩ := Ext.step _ hbr; clear hbr) | (go_at_call 13; refine (with_any _ _ _ _ (by omega) (by omega)).mono ?_; rintro e wr ⟨rfl, hbr⟩; obtain ⟨y, rfl⟩ := Ext.step _ hbr; clear hbr) | (go_at_call 10; refine (known01 _ (HT.out.at _)).mono ?_; rintro e wr ⟨rfl, hbr⟩; obtain ⟨y, rfl⟩ := Ext.step _ hbr; clear hbr))
  refine wp_loop_rounds 5 ?_
  repeat (rw [rounds_succ]; go_wp2_with (first | (go_at_call 15; refine (top_any _ _ _ (by omega) (by omega) (by omega) (by omega)).mono ?_; rintro e wr ⟨rfl, hbr⟩; obtain ⟨y, rfl⟩ := Ext.step _ hbr; clear hbr) | (go_at_call 11; refine (digit_any _ _ _ (by omega) (by omega)).mono ?_; rintro e wr ⟨rfl, hbr⟩; obtain ⟨y, rfl⟩ := Ext.step _ hbr; clear hbr) | (go_at_call 13; refine (with_any _ _ _ _ (by omega) (by omega)).mono ?_; rintro e wr ⟨rfl, hbr⟩; obtain ⟨y, rfl⟩ := Ext.step _ hbr; clear hbr) | (go_at_call 10; refine (known01 _ (HT.out.at _)).mono ?_; rintro e wr ⟨rfl, hbr⟩; obtain ⟨y, rfl⟩ := Ext.step _ hbr; clear hbr)))
  go_ret
  exact ⟨rfl, Ext.ok _⟩
set_option maxHeartbeats 4000000 in
set_option maxRecDepth 100000 in
theorem bt_u4 (a b : Int) (w : World) (HT : Hid (Tab w)) (h0 : 0 ≤ a) (h1 : a ≤ 18446744073709551615) (k0 : 0 ≤ b) (k1 : b ≤ 18446744073709551615) (ho : a < b) (t : topI a b = 4) (e : a / 1073741824 = b / 1073741824) (n : a / 16777216 ≠ b / 16777216) :
    Calls Tryd.prog 4 #[.int .u64 a, .int .u64 b] w fun e w' => e = .returned (.bool true) ∧ Below w.heap.size w w' := by
  obtain ⟨e5, e6, e7, g1, g2, g3⟩ := bt4 (x := a) (y := b) (by omega) (by omega) (by omega) e n
  have f1 : decide (digitI a 4 < digitI b 4) = true := by simpa using g1
  have f2 : decide (a < withI a 4 (digitI b 4)) = true := by simpa using g2
  have f3 : decide (withI a 4 (digitI b 4) ≤ b) = true := by simpa using g3
  clear e n g1 g2 g3
  go_enter Tryd.func4, Tryd.ntmps4
  refine wp_start ?_
  intro x
  go_wp2_with (first | (go_at_call 15; refine (top_any _ _ _ (by omega) (by omega) (by omega) (by omega)).mono ?_; rintro e wr ⟨rfl, hbr⟩; obtain ⟨y, rfl⟩ := Ext.step _ hbr; clear hbr) | (go_at_call 11; refine (digit_any _ _ _ (by omega) (by omega)).mono ?_; rintro e wr ⟨rfl, hbr⟩; obtain ⟨y, rfl⟩ := Ext.step _ hbr; clear hbr) | (go_at_call 13; refine (with_any _ _ _ _ (by omega) (by omega)).mono ?_; rintro e wr ⟨rfl, hbr⟩; obtain ⟨y, rfl⟩ := Ext.step _ hbr; clear hbr) | (go_at_call 10; refine (known01 _ (HT.out.at _)).mono ?_; rintro e wr ⟨rfl, hbr⟩; obtain ⟨y, rfl⟩ := Ext.step _ hbr; clear hbr))
  refine wp_loop_rounds 4 ?_
  repeat (rw [rounds_succ]; go_wp2_with (first | (go_at_call 15; refine (top_any _ _ _ (by omega) (by omega) (by omega) (by omega)).mono ?_; rintro e wr ⟨rfl, hbr⟩; obtain ⟨y, rfl⟩ := Ext.step _ hbr; clear hbr) | (go_at_call 11; refine (digit_any _ _ _ (by omega) (by omega)).mono ?_; rintro e wr ⟨rfl, hbr⟩; obtain ⟨y, rfl⟩ := Ext.step _ hbr; clear hbr) | (go_at_call 13; refine (with_any _ _ _ _ (by omega) (by omega)).mono ?_; rintro e wr ⟨rfl, hbr⟩; obtain ⟨y, rfl⟩ := Ext.step _ hbr; clear hbr) | (go_at_call 10; refine (known01 _ (HT.out.at _)).mono ?_; rintro e wr ⟨rfl, hbr⟩; obtain ⟨y, rfl⟩ := Ext.step _ hbr; clear hbr)))
  go_ret
  exact ⟨rfl, Ext.ok _⟩
set_option maxHeartbeats 4000000 in
set_option maxRecDepth 100000 in
theorem bt_u5 (a b : Int) (w : World) (HT : Hid (Tab w)) (h0 : 0 ≤ a) (h1 : a ≤ 18446744073709551615) (k0 : 0 ≤ b) (k1 : b ≤ 18446744073709551615) (ho : a < b) (t : topI a b = 5) (e : a / 68719476736 = b / 68719476736) (n : a / 1073741824 ≠ b / 1073741824) :
    Calls Tryd.prog 4 #[.int .u64 a, .int .u64 b] w fun e w' => e = .returned (.bool true) ∧ Below w.heap.size w w' := by
  obtain ⟨e6, e7, g1, g2, g3⟩ := bt5 (x := a) (y := b) (by omega) (by omega) (by omega) e n
  have f1 : decide (digitI a 5 < digitI b 5) = true := by simpa using g1
  have f2 : decide (a < withI a 5 (digitI b 5)) = true := by simpa using g2
  have f3 : decide (withI a 5 (digitI b 5) ≤ b) = true := by simpa using g3
  clear e n g1 g2 g3
  go_enter Tryd.func4, Tryd.ntmps4
  refine wp_start ?_
  intro x
  go_wp2_with (first | (go_at_call 15; refine (top_any _ _ _ (by omega) (by omega) (by omega) (by omega)).mono ?_; rintro e wr ⟨rfl, hbr⟩; obtain ⟨y, rfl⟩ := Ext.step _ hbr; clear hbr) | (go_at_call 11; refine (digit_any _ _ _ (by omega) (by omega)).mono ?_; rintro e wr ⟨rfl, hbr⟩; obtain ⟨y, rfl⟩ := Ext.step _ hbr; clear hbr) | (go_at_call 13; refine (with_any _ _ _ _ (by omega) (by omega)).mono ?_; rintro e wr ⟨rfl, hbr⟩; obtain ⟨y, rfl⟩ := Ext.step _ hbr; clear hbr) | (go_at_call 10; refine (known01 _ (HT.out.at _)).mono ?_; rintro e wr ⟨rfl, hbr⟩; obtain ⟨y, rfl⟩ := Ext.step _ hbr; clear hbr))
  refine wp_loop_rounds 3 ?_
  repeat (rw [rounds_succ]; go_wp2_with (first | (go_at_call 15; refine (top_any _ _ _ (by omega) (by omega) (by omega) (by omega)).mono ?_; rintro e wr ⟨rfl, hbr⟩; obtain ⟨y, rfl⟩ := Ext.step _ hbr; clear hbr) | (go_at_call 11; refine (digit_any _ _ _ (by omega) (by omega)).mono ?_; rintro e wr ⟨rfl, hbr⟩; obtain ⟨y, rfl⟩ := Ext.step _ hbr; clear hbr) | (go_at_call 13; refine (with_any _ _ _ _ (by omega) (by omega)).mono ?_; rintro e wr ⟨rfl, hbr⟩; obtain ⟨y, rfl⟩ := Ext.step _ hbr; clear hbr) | (go_at_call 10; refine (known01 _ (HT.out.at _)).mono ?_; rintro e wr ⟨rfl, hbr⟩; obtain ⟨y, rfl⟩ := Ext.step _ hbr; clear hbr)))
  go_ret
  exact ⟨rfl, Ext.ok _⟩
set_option maxHeartbeats 4000000 in
set_option maxRecDepth 100000 in
theorem bt_u6 (a b : Int) (w : World) (HT : Hid (Tab w)) (h0 : 0 ≤ a) (h1 : a ≤ 18446744073709551615) (k0 : 0 ≤ b) (k1 : b ≤ 18446744073709551615) (ho : a < b) (t : topI a b = 6) (e : a / 4398046511104 = b / 4398046511104) (n : a / 68719476736 ≠ b / 68719476736) :
    Calls Tryd.prog 4 #[.int .u64 a, .int .u64 b] w fun e w' => e = .returned (.bool true) ∧ Below w.heap.size w w' := by
  obtain ⟨e7, g1, g2, g3⟩ := bt6 (x := a) (y := b) (by omega) (by omega) (by omega) e n
  have f1 : decide (digitI a 6 < digitI b 6) = true := by simpa using g1
  have f2 : decide (a < withI a 6 (digitI b 6)) = true := by simpa using g2
  have f3 : decide (withI a 6 (digitI b 6) ≤ b) = true := by simpa using g3
  clear e n g1 g2 g3
  go_enter Tryd.func4, Tryd.ntmps4
  refine wp_start ?_
  intro x
  go_wp2_with (first | (go_at_call 15; refine (top_any _ _ _ (by omega) (by omega) (by omega) (by omega)).mono ?_; rintro e wr ⟨rfl, hbr⟩; obtain ⟨y, rfl⟩ := Ext.step _ hbr; clear hbr) | (go_at_call 11; refine (digit_any _ _ _ (by omega) (by omega)).mono ?_; rintro e wr ⟨rfl, hbr⟩; obtain ⟨y, rfl⟩ := Ext.step _ hbr; clear hbr) | (go_at_call 13; refine (with_any _ _ _ _ (by omega) (by omega)).mono ?_; rintro e wr ⟨rfl, hbr⟩; obtain ⟨y, rfl⟩ := Ext.step _ hbr; clear hbr) | (go_at_call 10; refine (known01 _ (HT.out.at _)).mono ?_; rintro e wr ⟨rfl, hbr⟩; obtain ⟨y, rfl⟩ := Ext.step _ hbr; clear hbr))
  refine wp_loop_rounds 2 ?_
  repeat (rw [rounds_succ]; go_wp2_with (first | (go_at_call 15; refine (top_any _ _ _ (by omega) (by omega) (by omega) (by omega)).mono ?_; rintro e wr ⟨rfl, hbr⟩; obtain ⟨y, rfl⟩ := Ext.step _ hbr; clear hbr) | (go_at_call 11; refine (digit_any _ _ _ (by omega) (by omega)).mono ?_; rintro e wr ⟨rfl, hbr⟩; obtain ⟨y, rfl⟩ := Ext.step _ hbr; clear hbr) | (go_at_call 13; refine (with_any _ _ _ _ (by omega) (by omega)).mono ?_; rintro e wr ⟨rfl, hbr⟩; obtain ⟨y, rfl⟩ := Ext.step _ hbr; clear hbr) | (go_at_call 10; refine (known01 _ (HT.out.at _)).mono ?_; rintro e wr ⟨rfl, hbr⟩; obtain ⟨y, rfl⟩ := Ext.step _ hbr; clear hbr)))
  go_ret
  exact ⟨rfl, Ext.ok _⟩
set_option maxHeartbeats 4000000 in
set_option maxRecDepth 100000 in
theorem bt_u7 (a b : Int) (w : World) (HT : Hid (Tab w)) (h0 : 0 ≤ a) (h1 : a ≤ 18446744073709551615) (k0 : 0 ≤ b) (k1 : b ≤ 18446744073709551615) (ho : a < b) (t : topI a b = 7) (e : a / 281474976710656 = b / 281474976710656) (n : a / 4398046511104 ≠ b / 4398046511104) :
    Calls Tryd.prog 4 #[.int .u64 a, .int .u64 b] w fun e w' => e = .returned (.bool true) ∧ Below w.heap.size w w' := by
  obtain ⟨g1, g2, g3⟩ := bt7 (x := a) (y := b) (by omega) (by omega) (by omega) e n
  have f1 : decide (digitI a 7 < digitI b 7) = true := by simpa using g1
  have f2 : decide (a < withI a 7 (digitI b 7)) = true := by simpa using g2
  have f3 : decide (withI a 7 (digitI b 7) ≤ b) = true := by simpa using g3
  clear e n g1 g2 g3
  go_enter Tryd.func4, Tryd.ntmps4
  refine wp_start ?_
  intro x
  go_wp2_with (first | (go_at_call 15; refine (top_any _ _ _ (by omega) (by omega) (by omega) (by omega)).mono ?_; rintro e wr ⟨rfl, hbr⟩; obtain ⟨y, rfl⟩ := Ext.step _ hbr; clear hbr) | (go_at_call 11; refine (digit_any _ _ _ (by omega) (by omega)).mono ?_; rintro e wr ⟨rfl, hbr⟩; obtain ⟨y, rfl⟩ := Ext.step _ hbr; clear hbr) | (go_at_call 13; refine (with_any _ _ _ _ (by omega) (by omega)).mono ?_; rintro e wr ⟨rfl, hbr⟩; obtain ⟨y, rfl⟩ := Ext.step _ hbr; clear hbr) | (go_at_call 10; refine (known01 _ (HT.out.at _)).mono ?_; rintro e wr ⟨rfl, hbr⟩; obtain ⟨y, rfl⟩ := Ext.step _ hbr; clear hbr))
  refine wp_loop_rounds 1 ?_
  repeat (rw [rounds_succ]; go_wp2_with (first | (go_at_call 15; refine (top_any _ _ _ (by omega) (by omega) (by omega) (by omega)).mono ?_; rintro e wr ⟨rfl, hbr⟩; obtain ⟨y, rfl⟩ := Ext.step _ hbr; clear hbr) | (go_at_call 11; refine (digit_any _ _ _ (by omega) (by omega)).mono ?_; rintro e wr ⟨rfl, hbr⟩; obtain ⟨y, rfl⟩ := Ext.step _ hbr; clear hbr) | (go_at_call 13; refine (with_any _ _ _ _ (by omega) (by omega)).mono ?_; rintro e wr ⟨rfl, hbr⟩; obtain ⟨y, rfl⟩ := Ext.step _ hbr; clear hbr) | (go_at_call 10; refine (known01 _ (HT.out.at _)).mono ?_; rintro e wr ⟨rfl, hbr⟩; obtain ⟨y, rfl⟩ := Ext.step _ hbr; clear hbr)))
  go_ret
  exact ⟨rfl, Ext.ok _⟩
set_option maxHeartbeats 4000000 in
set_option maxRecDepth 100000 in
theorem bt_u8 (a b : Int) (w : World) (HT : Hid (Tab w)) (h0 : 0 ≤ a) (h1 : a ≤ 18446744073709551615) (k0 : 0 ≤ b) (k1 : b ≤ 18446744073709551615) (ho : a < b) (t : topI a b = 8) (n : a / 281474976710656 ≠ b / 281474976710656) :
    Calls Tryd.prog 4 #[.int .u64 a, .int .u64 b] w fun e w' => e = .returned (.bool true) ∧ Below w.heap.size w w' := by
  have f1 : decide (a / 281474976710656 < b / 281474976710656) = true := by simp; omega
  clear n
  go_enter Tryd.func4, Tryd.ntmps4
  refine wp_start ?_
  intro x
  go_wp2_with (first | (go_at_call 15; refine (top_any _ _ _ (by omega) (by omega) (by omega) (by omega)).mono ?_; rintro e wr ⟨rfl, hbr⟩; obtain ⟨y, rfl⟩ := Ext.step _ hbr; clear hbr))
  refine wp_loop_rounds 1 ?_
  rw [rounds_succ]; go_wp2_with fail
  refine wp_region_ext _ (by kernel_rfl) (by kernel_rfl) ?_
  repeat (go_big_quiet_step (first | (go_at_call 17; refine Ext.call (power_any _ _ (by omega) (by omega))) | (go_at_call 10; refine Ext.call (known01 _ (HT.out.at _)))))
  refine wpQuiet_nil ?_
  rintro _ ⟨y, rfl⟩
  go_wp2_with fail
  go_ret
  exact ⟨rfl, Ext.ok _⟩
set_option maxHeartbeats 4000000 in
set_option maxRecDepth 100000 in
theorem bt_d0 (a b : Int) (w : World) (HT : Hid (Tab w)) (h0 : 0 ≤ a) (h1 : a ≤ 18446744073709551615) (k0 : 0 ≤ b) (k1 : b ≤ 18446744073709551615) (ho : b < a) (t : topI b a = 0) (e : b / 64 = a / 64) (n : b ≠ a) :
    Calls Tryd.prog 4 #[.int .u64 a, .int .u64 b] w fun e w' => e = .returned (.bool true) ∧ Below w.heap.size w w' := by
  obtain ⟨e1, e2, e3, e4, e5, e6, e7, g1, g2, g3⟩ := bt0 (x := b) (y := a) (by omega) (by omega) (by omega) e n
  have f1 : decide (digitI b 0 < digitI a 0) = true := by simpa using g1
  have f2 : decide (b < withI b 0 (digitI a 0)) = true := by simpa using g2
  have f3 : decide (withI b 0 (digitI a 0) ≤ a) = true := by simpa using g3
  clear e n g1 g2 g3
  go_enter Tryd.func4, Tryd.ntmps4
  refine wp_start ?_
  intro x
  go_wp2_with (first | (go_at_call 15; refine (top_any _ _ _ (by omega) (by omega) (by omega) (by omega)).mono ?_; rintro e wr ⟨rfl, hbr⟩; obtain ⟨y, rfl⟩ := Ext.step _ hbr; clear hbr) | (go_at_call 11; refine (digit_any _ _ _ (by omega) (by omega)).mono ?_; rintro e wr ⟨rfl, hbr⟩; obtain ⟨y, rfl⟩ := Ext.step _ hbr; clear hbr) | (go_at_call 13; refine (with_any _ _ _ _ (by omega) (by omega)).mono ?_; rintro e wr ⟨rfl, hbr⟩; obtain ⟨y, rfl⟩ := Ext.step _ hbr; clear hbr) | (go_at_call 10; refine (known01 _ (HT.out.at _)).mono ?_; rintro e wr ⟨rfl, hbr⟩; obtain ⟨y, rfl⟩ := Ext.step _ hbr; clear hbr))
  refine wp_loop_rounds 8 ?_
  repeat (rw [rounds_succ]; go_wp2_with (first | (go_at_call 15; refine (top_any _ _ _ (by omega) (by omega) (by omega) (by omega)).mono ?_; rintro e wr ⟨rfl, hbr⟩; obtain ⟨y, rfl⟩ := Ext.step _ hbr; clear hbr) | (go_at_call 11; refine (digit_any _ _ _ (by omega) (by omega)).mono ?_; rintro e wr ⟨rfl, hbr⟩; obtain ⟨y, rfl⟩ := Ext.step _ hbr; clear hbr) | (go_at_call 13; refine (with_any _ _ _ _ (by omega) (by omega)).mono ?_; rintro e wr ⟨rfl, hbr⟩; obtain ⟨y, rfl⟩ := Ext.step _ hbr; clear hbr) | (go_at_call 10; refine (known01 _ (HT.out.at _)).mono ?_; rintro e wr ⟨rfl, hbr⟩; obtain ⟨y, rfl⟩ := Ext.step _ hbr; clear hbr)))
  go_ret
  exact ⟨rfl, Ext.ok _⟩
set_option maxHeartbeats 4000000 in
set_option maxRecDepth 100000 in
theorem bt_d1 (a b : Int) (w : World) (HT : Hid (Tab w)) (h0 : 0 ≤ a) (h1 : a ≤ 18446744073709551615) (k0 : 0 ≤ b) (k1 : b ≤ 18446744073709551615) (ho : b < a) (t : topI b a = 1) (e : b / 4096 = a / 4096) (n : b / 64 ≠ a / 64) :
    Calls Tryd.prog 4 #[.int .u64 a, .int .u64 b] w fun e w' => e = .returned (.bool true) ∧ Below w.heap.size w w' := by
  obtain ⟨e2, e3, e4, e5, e6, e7, g1, g2, g3⟩ := bt1 (x := b) (y := a) (by omega) (by omega) (by omega) e n
  have f1 : decide (digitI b 1 < digitI a 1) = true := by simpa using g1
  have f2 : decide (b < withI b 1 (digitI a 1)) = true := by simpa using g2
  have f3 : decide (withI b 1 (digitI a 1) ≤ a) = true := by simpa using g3
  clear e n g1 g2 g3
  go_enter Tryd.func4, Tryd.ntmps4
  refine wp_start ?_
  intro x
  go_wp2_with (first | (go_at_call 15; refine (top_any _ _ _ (by omega) (by omega) (by omega) (by omega)).mono ?_; rintro e wr ⟨rfl, hbr⟩; obtain ⟨y, rfl⟩ := Ext.step _ hbr; clear hbr) | (go_at_call 11; refine (digit_any _ _ _ (by omega) (by omega)).mono ?_; rintro e wr ⟨rfl, hbr⟩; obtain ⟨y, rfl⟩ := Ext.step _ hbr; clear hbr) | (go_at_call 13; refine (with_any _ _ _ _ (by omega) (by omega)).mono ?_; rintro e wr ⟨rfl, hbr⟩; obtain ⟨y, rfl⟩ := Ext.step _ hbr; clear hbr) | (go_at_call 10; refine (known01 _ (HT.out.at _)).mono ?_; rintro e wr ⟨rfl, hbr⟩; obtain ⟨y, rfl⟩ := Ext.step _ hbr; clear hbr))
  refine wp_loop_rounds 7 ?_
  repeat (rw [rounds_succ]; go_wp2_with (first | (go_at_call 15; refine (top_any _ _ _ (by omega) (by omega) (by omega) (by omega)).mono ?_; rintro e wr ⟨rfl, hbr⟩; obtain ⟨y, rfl⟩ := Ext.step _ hbr; clear hbr) | (go_at_call 11; refine (digit_any _ _ _ (by omega) (by omega)).mono ?_; rintro e wr ⟨rfl, hbr⟩; obtain ⟨y, rfl⟩ := Ext.step _ hbr; clear hbr) | (go_at_call 13; refine (with_any _ _ _ _ (by omega) (by omega)).mono ?_; rintro e wr ⟨rfl, hbr⟩; obtain ⟨y, rfl⟩ := Ext.step _ hbr; clear hbr) | (go_at_call 10; refine (known01 _ (HT.out.at _)).mono ?_; rintro e wr ⟨rfl, hbr⟩; obtain ⟨y, rfl⟩ := Ext.step _ hbr; clear hbr)))
  go_ret
  exact ⟨rfl, Ext.ok _⟩
set_option maxHeartbeats 4000000 in
set_option maxRecDepth 100000 in
theorem bt_d2 (a b : Int) (w : World) (HT : Hid (Tab w)) (h0 : 0 ≤ a) (h1 : a ≤ 18446744073709551615) (k0 : 0 ≤ b) (k1 : b ≤ 18446744073709551615) (ho : b < a) (t : topI b a = 2) (e : b / 262144 = a / 262144) (n : b / 4096 ≠ a / 4096) :
    Calls Tryd.prog 4 #[.int .u64 a, .int .u64 b] w fun e w' => e = .returned (.bool true) ∧ Below w.heap.size w w' := by
  obtain ⟨e3, e4, e5, e6, e7, g1, g2, g3⟩ := bt2 (x := b) (y := a) (by omega) (by omega) (by omega) e n
  have f1 : decide (digitI b 2 < digitI a 2) = true := by simpa using g1
  have f2 : decide (b < withI b 2 (digitI a 2)) = true := by simpa using g2
  have f3 : decide (withI b 2 (digitI a 2) ≤ a) = true := by simpa using g3
  clear e n g1 g2 g3
  go_enter Tryd.func4, Tryd.ntmps4
  refine wp_start ?_
  intro x
  go_wp2_with (first | (go_at_call 15; refine (top_any _ _ _ (by omega) (by omega) (by omega) (by omega)).mono ?_; rintro e wr ⟨rfl, hbr⟩; obtain ⟨y, rfl⟩ := Ext.step _ hbr; clear hbr) | (go_at_call 11; refine (digit_any _ _ _ (by omega) (by omega)).mono ?_; rintro e wr ⟨rfl, hbr⟩; obtain ⟨y, rfl⟩ := Ext.step _ hbr; clear hbr) | (go_at_call 13; refine (with_any _ _ _ _ (by omega) (by omega)).mono ?_; rintro e wr ⟨rfl, hbr⟩; obtain ⟨y, rfl⟩ := Ext.step _ hbr; clear hbr) | (go_at_call 10; refine (known01 _ (HT.out.at _)).mono ?_; rintro e wr ⟨rfl, hbr⟩; obtain ⟨y, rfl⟩ := Ext.step _ hbr; clear hbr))
  refine wp_loop_rounds 6 ?_
  repeat (rw [rounds_succ]; go_wp2_with (first | (go_at_call 15; refine (top_any _ _ _ (by omega) (by omega) (by omega) (by omega)).mono ?_; rintro e wr ⟨rfl, hbr⟩; obtain ⟨y, rfl⟩ := Ext.step _ hbr; clear hbr) | (go_at_call 11; refine (digit_any _ _ _ (by omega) (by omega)).mono ?_; rintro e wr ⟨rfl, hbr⟩; obtain ⟨y, rfl⟩ := Ext.step _ hbr; clear hbr) | (go_at_call 13; refine (with_any _ _ _ _ (by omega) (by omega)).mono ?_; rintro e wr ⟨rfl, hbr⟩; obtain ⟨y, rfl⟩ := Ext.step _ hbr; clear hbr) | (go_at_call 10; refine (known01 _ (HT.out.at _)).mono ?_; rintro e wr ⟨rfl, hbr⟩; obtain ⟨y, rfl⟩ := Ext.step _ hbr; clear hbr)))
  go_ret
  exact ⟨rfl, Ext.ok _⟩
set_option maxHeartbeats 4000000 in
set_option maxRecDepth 100000 in
theorem bt_d3 (a b : Int) (w : World) (HT : Hid (Tab w)) (h0 : 0 ≤ a) (h1 : a ≤ 18446744073709551615) (k0 : 0 ≤ b) (k1 : b ≤ 18446744073709551615) (ho : b < a) (t : topI b a = 3) (e : b / 16777216 = a / 16777216) (n : b / 262144 ≠ a / 262144) :
    Calls Tryd.prog 4 #[.int .u64 a, .int .u64 b] w fun e w' => e = .returned (.bool true) ∧ Below w.heap.size w w' := by
  obtain ⟨e4, e5, e6, e7, g1, g2, g3⟩ := bt3 (x := b) (y := a) (by omega) (by omega) (by omega) e n
  have f1 : decide (digitI b 3 < digitI a 3) = true := by simpa using g1
  have f2 : decide (b < withI b 3 (digitI a 3)) = true := by simpa using g2
  have f3 : decide (withI b 3 (digitI a 3) ≤ a) = true := by simpa using g3
  clear e n g1 g2 g3
  go_enter Tryd.func4, Tryd.ntmps4
  refine wp_start ?_
  intro x
  go_wp2_with (first | (go_at_call 15; refine (top_any _ _ _ (by omega) (by omega) (by omega) (by omega)).mono ?_; rintro e wr ⟨rfl, hbr⟩; obtain ⟨y, rfl⟩ := Ext.step _ hbr; clear hbr) | (go_at_call 11; refine (digit_any _ _ _ (by omega) (by omega)).mono ?_; rintro e wr ⟨rfl, hbr⟩; obtain ⟨y, rfl⟩ := Ext.step _ hbr; clear hbr) | (go_at_call 13; refine (with_any _ _ _ _ (by omega) (by omega)).mono ?_; rintro e wr ⟨rfl, hbr⟩; obtain ⟨y, rfl⟩ := Ext.step _ hbr; clear hbr) | (go_at_call 10; refine (known01 _ (HT.out.at _)).mono ?_; rintro e wr ⟨rfl, hbr⟩; obtain ⟨y, rfl⟩ := Ext.step _ hbr; clear hbr))
  refine wp_loop_rounds 5 ?_
  repeat (rw [rounds_succ]; go_wp2_with (first | (go_at_call 15; refine (top_any _ _ _ (by omega) (by omega) (by omega) (by omega)).mono ?_; rintro e wr ⟨rfl, hbr⟩; obtain ⟨y, rfl⟩ := Ext.step _ hbr; clear hbr) | (go_at_call 11; refine (digit_any _ _ _ (by omega) (by omega)).mono ?_; rintro e wr ⟨rfl, hbr⟩; obtain ⟨y, rfl⟩ := Ext.step _ hbr; clear hbr) | (go_at_call 13; refine (with_any _ _ _ _ (by omega) (by omega)).mono ?_; rintro e wr ⟨rfl, hbr⟩; obtain ⟨y, rfl⟩ := Ext.step _ hbr; clear hbr) | (go_at_call 10; refine (known01 _ (HT.out.at _)).mono ?_; rintro e wr ⟨rfl, hbr⟩; obtain ⟨y, rfl⟩ := Ext.step _ hbr; clear hbr)))
  go_ret
  exact ⟨rfl, Ext.ok _⟩
set_option maxHeartbeats 4000000 in
set_option maxRecDepth 100000 in
theorem bt_d4 (a b : Int) (w : World) (HT : Hid (Tab w)) (h0 : 0 ≤ a) (h1 : a ≤ 18446744073709551615) (k0 : 0 ≤ b) (k1 : b ≤ 18446744073709551615) (ho : b < a) (t : topI b a = 4) (e : b / 1073741824 = a / 1073741824) (n : b / 16777216 ≠ a / 16777216) :
    Calls Tryd.prog 4 #[.int .u64 a, .int .u64 b] w fun e w' => e = .returned (.bool true) ∧ Below w.heap.size w w' := by
  obtain ⟨e5, e6, e7, g1, g2, g3⟩ := bt4 (x := b) (y := a) (by omega) (by omega) (by omega) e n
  have f1 : decide (digitI b 4 < digitI a 4) = true := by simpa using g1
  have f2 : decide (b < withI b 4 (digitI a 4)) = true := by simpa using g2
  have f3 : decide (withI b 4 (digitI a 4) ≤ a) = true := by simpa using g3
  clear e n g1 g2 g3
  go_enter Tryd.func4, Tryd.ntmps4
  refine wp_start ?_
  intro x
  go_wp2_with (first | (go_at_call 15; refine (top_any _ _ _ (by omega) (by omega) (by omega) (by omega)).mono ?_; rintro e wr ⟨rfl, hbr⟩; obtain ⟨y, rfl⟩ := Ext.step _ hbr; clear hbr) | (go_at_call 11; refine (digit_any _ _ _ (by omega) (by omega)).mono ?_; rintro e wr ⟨rfl, hbr⟩; obtain ⟨y, rfl⟩ := Ext.step _ hbr; clear hbr) | (go_at_call 13; refine (with_any _ _ _ _ (by omega) (by omega)).mono ?_; rintro e wr ⟨rfl, hbr⟩; obtain ⟨y, rfl⟩ := Ext.step _ hbr; clear hbr) | (go_at_call 10; refine (known01 _ (HT.out.at _)).mono ?_; rintro e wr ⟨rfl, hbr⟩; obtain ⟨y, rfl⟩ := Ext.step _ hbr; clear hbr))
  refine wp_loop_rounds 4 ?_
  repeat (rw [rounds_succ]; go_wp2_with (first | (go_at_call 15; refine (top_any _ _ _ (by omega) (by omega) (by omega) (by omega)).mono ?_; rintro e wr ⟨rfl, hbr⟩; obtain ⟨y, rfl⟩ := Ext.step _ hbr; clear hbr) | (go_at_call 11; refine (digit_any _ _ _ (by omega) (by omega)).mono ?_; rintro e wr ⟨rfl, hbr⟩; obtain ⟨y, rfl⟩ := Ext.step _ hbr; clear hbr) | (go_at_call 13; refine (with_any _ _ _ _ (by omega) (by omega)).mono ?_; rintro e wr ⟨rfl, hbr⟩; obtain ⟨y, rfl⟩ := Ext.step _ hbr; clear hbr) | (go_at_call 10; refine (known01 _ (HT.out.at _)).mono ?_; rintro e wr ⟨rfl, hbr⟩; obtain ⟨y, rfl⟩ := Ext.step _ hbr; clear hbr)))
  go_ret
  exact ⟨rfl, Ext.ok _⟩
set_option maxHeartbeats 4000000 in
set_option maxRecDepth 100000 in
theorem bt_d5 (a b : Int) (w : World) (HT : Hid (Tab w)) (h0 : 0 ≤ a) (h1 : a ≤ 18446744073709551615) (k0 : 0 ≤ b) (k1 : b ≤ 18446744073709551615) (ho : b < a) (t : topI b a = 5) (e : b / 68719476736 = a / 68719476736) (n : b / 1073741824 ≠ a / 1073741824) :
    Calls Tryd.prog 4 #[.int .u64 a, .int .u64 b] w fun e w' => e = .returned (.bool true) ∧ Below w.heap.size w w' := by
  obtain ⟨e6, e7, g1, g2, g3⟩ := bt5 (x := b) (y := a) (by omega) (by omega) (by omega) e n
  have f1 : decide (digitI b 5 < digitI a 5) = true := by simpa using g1
  have f2 : decide (b < withI b 5 (digitI a 5)) = true := by simpa using g2
  have f3 : decide (withI b 5 (digitI a 5) ≤ a) = true := by simpa using g3
  clear e n g1 g2 g3
  go_enter Tryd.func4, Tryd.ntmps4
  refine wp_start ?_
  intro x
  go_wp2_with (first | (go_at_call 15; refine (top_any _ _ _ (by omega) (by omega) (by omega) (by omega)).mono ?_; rintro e wr ⟨rfl, hbr⟩; obtain ⟨y, rfl⟩ := Ext.step _ hbr; clear hbr) | (go_at_call 11; refine (digit_any _ _ _ (by omega) (by omega)).mono ?_; rintro e wr ⟨rfl, hbr⟩; obtain ⟨y, rfl⟩ := Ext.step _ hbr; clear hbr) | (go_at_call 13; refine (with_any _ _ _ _ (by omega) (by omega)).mono ?_; rintro e wr ⟨rfl, hbr⟩; obtain ⟨y, rfl⟩ := Ext.step _ hbr; clear hbr) | (go_at_call 10; refine (known01 _ (HT.out.at _)).mono ?_; rintro e wr ⟨rfl, hbr⟩; obtain ⟨y, rfl⟩ := Ext.step _ hbr; clear hbr))
  refine wp_loop_rounds 3 ?_
  repeat (rw [rounds_succ]; go_wp2_with (first | (go_at_call 15; refine (top_any _ _ _ (by omega) (by omega) (by omega) (by omega)).mono ?_; rintro e wr ⟨rfl, hbr⟩; obtain ⟨y, rfl⟩ := Ext.step _ hbr; clear hbr) | (go_at_call 11; refine (digit_any _ _ _ (by omega) (by omega)).mono ?_; rintro e wr ⟨rfl, hbr⟩; obtain ⟨y, rfl⟩ := Ext.step _ hbr; clear hbr) | (go_at_call 13; refine (with_any _ _ _ _ (by omega) (by omega)).mono ?_; rintro e wr ⟨rfl, hbr⟩; obtain ⟨y, rfl⟩ := Ext.step _ hbr; clear hbr) | (go_at_call 10; refine (known01 _ (HT.out.at _)).mono ?_; rintro e wr ⟨rfl, hbr⟩; obtain ⟨y, rfl⟩ := Ext.step _ hbr; clear hbr)))
  go_ret
  exact ⟨rfl, Ext.ok _⟩
set_option maxHeartbeats 4000000 in
set_option maxRecDepth 100000 in
theorem bt_d6 (a b : Int) (w : World) (HT : Hid (Tab w)) (h0 : 0 ≤ a) (h1 : a ≤ 18446744073709551615) (k0 : 0 ≤ b) (k1 : b ≤ 18446744073709551615) (ho : b < a) (t : topI b a = 6) (e : b / 4398046511104 = a / 4398046511104) (n : b / 68719476736 ≠ a / 68719476736) :
    Calls Tryd.prog 4 #[.int .u64 a, .int .u64 b] w fun e w' => e = .returned (.bool true) ∧ Below w.heap.size w w' := by
  obtain ⟨e7, g1, g2, g3⟩ := bt6 (x := b) (y := a) (by omega) (by omega) (by omega) e n
  have f1 : decide (digitI b 6 < digitI a 6) = true := by simpa using g1
  have f2 : decide (b < withI b 6 (digitI a 6)) = true := by simpa using g2
  have f3 : decide (withI b 6 (digitI a 6) ≤ a) = true := by simpa using g3
  clear e n g1 g2 g3
  go_enter Tryd.func4, Tryd.ntmps4
  refine wp_start ?_
  intro x
  go_wp2_with (first | (go_at_call 15; refine (top_any _ _ _ (by omega) (by omega) (by omega) (by omega)).mono ?_; rintro e wr ⟨rfl, hbr⟩; obtain ⟨y, rfl⟩ := Ext.step _ hbr; clear hbr) | (go_at_call 11; refine (digit_any _ _ _ (by omega) (by omega)).mono ?_; rintro e wr ⟨rfl, hbr⟩; obtain ⟨y, rfl⟩ := Ext.step _ hbr; clear hbr) | (go_at_call 13; refine (with_any _ _ _ _ (by omega) (by omega)).mono ?_; rintro e wr ⟨rfl, hbr⟩; obtain ⟨y, rfl⟩ := Ext.step _ hbr; clear hbr) | (go_at_call 10; refine (known01 _ (HT.out.at _)).mono ?_; rintro e wr ⟨rfl, hbr⟩; obtain ⟨y, rfl⟩ := Ext.step _ hbr; clear hbr))
  refine wp_loop_rounds 2 ?_
  repeat (rw [rounds_succ]; go_wp2_with (first | (go_at_call 15; refine (top_any _ _ _ (by omega) (by omega) (by omega) (by omega)).mono ?_; rintro e wr ⟨rfl, hbr⟩; obtain ⟨y, rfl⟩ := Ext.step _ hbr; clear hbr) | (go_at_call 11; refine (digit_any _ _ _ (by omega) (by omega)).mono ?_; rintro e wr ⟨rfl, hbr⟩; obtain ⟨y, rfl⟩ := Ext.step _ hbr; clear hbr) | (go_at_call 13; refine (with_any _ _ _ _ (by omega) (by omega)).mono ?_; rintro e wr ⟨rfl, hbr⟩; obtain ⟨y, rfl⟩ := Ext.step _ hbr; clear hbr) | (go_at_call 10; refine (known01 _ (HT.out.at _)).mono ?_; rintro e wr ⟨rfl, hbr⟩; obtain ⟨y, rfl⟩ := Ext.step _ hbr; clear hbr)))
  go_ret
  exact ⟨rfl, Ext.ok _⟩
set_option maxHeartbeats 4000000 in
set_option maxRecDepth 100000 in
theorem bt_d7 (a b : Int) (w : World) (HT : Hid (Tab w)) (h0 : 0 ≤ a) (h1 : a ≤ 18446744073709551615) (k0 : 0 ≤ b) (k1 : b ≤ 18446744073709551615) (ho : b < a) (t : topI b a = 7) (e : b / 281474976710656 = a / 281474976710656) (n : b / 4398046511104 ≠ a / 4398046511104) :
    Calls Tryd.prog 4 #[.int .u64 a, .int .u64 b] w fun e w' => e = .returned (.bool true) ∧ Below w.heap.size w w' := by
  obtain ⟨g1, g2, g3⟩ := bt7 (x := b) (y := a) (by omega) (by omega) (by omega) e n
  have f1 : decide (digitI b 7 < digitI a 7) = true := by simpa using g1
  have f2 : decide (b < withI b 7 (digitI a 7)) = true := by simpa using g2
  have f3 : decide (withI b 7 (digitI a 7) ≤ a) = true := by simpa using g3
  clear e n g1 g2 g3
  go_enter Tryd.func4, Tryd.ntmps4
  refine wp_start ?_
  intro x
  go_wp2_with (first | (go_at_call 15; refine (top_any _ _ _ (by omega) (by omega) (by omega) (by omega)).mono ?_; rintro e wr ⟨rfl, hbr⟩; obtain ⟨y, rfl⟩ := Ext.step _ hbr; clear hbr) | (go_at_call 11; refine (digit_any _ _ _ (by omega) (by omega)).mono ?_; rintro e wr ⟨rfl, hbr⟩; obtain ⟨y, rfl⟩ := Ext.step _ hbr; clear hbr) | (go_at_call 13; refine (with_any _ _ _ _ (by omega) (by omega)).mono ?_; rintro e wr ⟨rfl, hbr⟩; obtain ⟨y, rfl⟩ := Ext.step _ hbr; clear hbr) | (go_at_call 10; refine (known01 _ (HT.out.at _)).mono ?_; rintro e wr ⟨rfl, hbr⟩; obtain ⟨y, rfl⟩ := Ext.step _ hbr; clear hbr))
  refine wp_loop_rounds 1 ?_
  repeat (rw [rounds_succ]; go_wp2_with (first | (go_at_call 15; refine (top_any _ _ _ (by omega) (by omega) (by omega) (by omega)).mono ?_; rintro e wr ⟨rfl, hbr⟩; obtain ⟨y, rfl⟩ := Ext.step _ hbr; clear hbr) | (go_at_call 11; refine (digit_any _ _ _ (by omega) (by omega)).mono ?_; rintro e wr ⟨rfl, hbr⟩; obtain ⟨y, rfl⟩ := Ext.step _ hbr; clear hbr) | (go_at_call 13; refine (with_any _ _ _ _ (by omega) (by omega)).mono ?_; rintro e wr ⟨rfl, hbr⟩; obtain ⟨y, rfl⟩ := Ext.step _ hbr; clear hbr) | (go_at_call 10; refine (known01 _ (HT.out.at _)).mono ?_; rintro e wr ⟨rfl, hbr⟩; obtain ⟨y, rfl⟩ := Ext.step _ hbr; clear hbr)))
  go_ret
  exact ⟨rfl, Ext.ok _⟩
set_option maxHeartbeats 4000000 in
set_option maxRecDepth 100000 in
theorem bt_d8 (a b : Int) (w : World) (HT : Hid (Tab w)) (h0 : 0 ≤ a) (h1 : a ≤ 18446744073709551615) (k0 : 0 ≤ b) (k1 : b ≤ 18446744073709551615) (ho : b < a) (t : topI b a = 8) (n : b / 281474976710656 ≠ a / 281474976710656) :
    Calls Tryd.prog 4 #[.int .u64 a, .int .u64 b] w fun e w' => e = .returned (.bool true) ∧ Below w.heap.size w w' := by
  have f1 : decide (b / 281474976710656 < a / 281474976710656) = true := by simp; omega
  clear n
  go_enter Tryd.func4, Tryd.ntmps4
  refine wp_start ?_
  intro x
  go_wp2_with (first | (go_at_call 15; refine (top_any _ _ _ (by omega) (by omega) (by omega) (by omega)).mono ?_; rintro e wr ⟨rfl, hbr⟩; obtain ⟨y, rfl⟩ := Ext.step _ hbr; clear hbr))
  refine wp_loop_rounds 1 ?_
  rw [rounds_succ]; go_wp2_with fail
  refine wp_region_ext _ (by kernel_rfl) (by kernel_rfl) ?_
  repeat (go_big_quiet_step (first | (go_at_call 17; refine Ext.call (power_any _ _ (by omega) (by omega))) | (go_at_call 10; refine Ext.call (known01 _ (HT.out.at _)))))
  refine wpQuiet_nil ?_
  rintro _ ⟨y, rfl⟩
  go_wp2_with fail
  go_ret
  exact ⟨rfl, Ext.ok _⟩
set_option maxHeartbeats 4000000 in
set_option maxRecDepth 100000 in
theorem bt_same (a : Int) (w : World) (HT : Hid (Tab w)) (h0 : 0 ≤ a) (h1 : a ≤ 18446744073709551615) (t : topI a a = -1) :
    Calls Tryd.prog 4 #[.int .u64 a, .int .u64 a] w fun e w' => e = .returned (.bool true) ∧ Below w.heap.size w w' := by
  go_enter Tryd.func4, Tryd.ntmps4
  refine wp_start ?_
  intro x
  go_wp2_with (first | (go_at_call 15; refine (top_any _ _ _ (by omega) (by omega) (by omega) (by omega)).mono ?_; rintro e wr ⟨rfl, hbr⟩; obtain ⟨y, rfl⟩ := Ext.step _ hbr; clear hbr) | (go_at_call 10; refine (known01 _ (HT.out.at _)).mono ?_; rintro e wr ⟨rfl, hbr⟩; obtain ⟨y, rfl⟩ := Ext.step _ hbr; clear hbr))
  go_ret
  exact ⟨rfl, Ext.ok _⟩
theorem BitsTop_walk (a b : Int) (w : World) (hT : Tab w) (h0 : 0 ≤ a) (h1 : a ≤ 18446744073709551615) (k0 : 0 ≤ b) (k1 : b ≤ 18446744073709551615) :
    Calls Tryd.prog 4 #[.int .u64 a, .int .u64 b] w fun e w' => e = .returned (.bool true) ∧ Below w.heap.size w w' := by
  have HT := Lib.hid hT
  by_cases ho : a ≤ b
  · rcases top_cases a b h0 h1 k0 k1 with ⟨e, t⟩ | ⟨e, n, t⟩ | ⟨e, n, t⟩ | ⟨e, n, t⟩ | ⟨e, n, t⟩ | ⟨e, n, t⟩ | ⟨e, n, t⟩ | ⟨e, n, t⟩ | ⟨e, n, t⟩ | ⟨n, t⟩
    · subst e
      exact bt_same a w HT h0 h1 t
    · exact bt_u0 a b w HT h0 h1 k0 k1 (lt_of_ne ho fun h => n (by rw [h])) t e n
    · exact bt_u1 a b w HT h0 h1 k0 k1 (lt_of_ne ho fun h => n (by rw [h])) t e n
    · exact bt_u2 a b w HT h0 h1 k0 k1 (lt_of_ne ho fun h => n (by rw [h])) t e n
    · exact bt_u3 a b w HT h0 h1 k0 k1 (lt_of_ne ho fun h => n (by rw [h])) t e n
    · exact bt_u4 a b w HT h0 h1 k0 k1 (lt_of_ne ho fun h => n (by rw [h])) t e n
    · exact bt_u5 a b w HT h0 h1 k0 k1 (lt_of_ne ho fun h => n (by rw [h])) t e n
    · exact bt_u6 a b w HT h0 h1 k0 k1 (lt_of_ne ho fun h => n (by rw [h])) t e n
    · exact bt_u7 a b w HT h0 h1 k0 k1 (lt_of_ne ho fun h => n (by rw [h])) t e n
    · exact bt_u8 a b w HT h0 h1 k0 k1 (lt_of_ne ho fun h => n (by rw [h])) t n
  · have ho' : b < a := by omega
    rcases top_cases b a k0 k1 h0 h1 with ⟨e, t⟩ | ⟨e, n, t⟩ | ⟨e, n, t⟩ | ⟨e, n, t⟩ | ⟨e, n, t⟩ | ⟨e, n, t⟩ | ⟨e, n, t⟩ | ⟨e, n, t⟩ | ⟨e, n, t⟩ | ⟨n, t⟩
    · subst e
      exact bt_same b w HT h0 h1 t
    · exact bt_d0 a b w HT h0 h1 k0 k1 ho' t e n
    · exact bt_d1 a b w HT h0 h1 k0 k1 ho' t e n
    · exact bt_d2 a b w HT h0 h1 k0 k1 ho' t e n
    · exact bt_d3 a b w HT h0 h1 k0 k1 ho' t e n
    · exact bt_d4 a b w HT h0 h1 k0 k1 ho' t e n
    · exact bt_d5 a b w HT h0 h1 k0 k1 ho' t e n
    · exact bt_d6 a b w HT h0 h1 k0 k1 ho' t e n
    · exact bt_d7 a b w HT h0 h1 k0 k1 ho' t e n
    · exact bt_d8 a b w HT h0 h1 k0 k1 ho' t n
end Go.Proofs.YtnoafhfidecppaaDoor
