/- The chapter's example of layer 16. -/
import Derived.Test.YtelnembjcgkiaaaDoorPoH
namespace Go.Proofs.YtelnembjcgkiaaaDoor
open Go.RowKit
set_option linter.unusedVariables false
set_option linter.unusedSimpArgs false

theorem block_lt_tab {w : World} (h : Tab w) : 0 < w.heap.size := World.block_lt_of_cell? w ⟨0, 0, none⟩ (h 0 (by decide))
theorem Tab.only {w w' : World} {S : Nat → Prop} (h : Tab w) (ho : Only S w w') (hn : ¬ S 0) : Tab w' := fun j hj => cell_only (h j hj) ho hn
def q1 : Po := (Po.new 2).put 0 (0, 0, 0)
def q2 : Po := q1.put 1 (0, 0, 0)
def q3 : Po := q2.drop 0
def q4 : Po := q3.put 0 (0, 0, 0)
theorem low1 (y : Nat) (hy : y < 1) : q1.tk y = true := by
  obtain rfl : y = 0 := by omega
  rfl
theorem q0_ok : (Po.new 2).ok := new_ok (by decide) (by decide)
theorem q1_ok : q1.ok := put_ok q0_ok 0 (by decide) _
theorem q2_ok : q2.ok := put_ok q1_ok 1 (by decide) _
theorem q3_ok : q3.ok := drop_ok q2_ok 0 (by decide)
theorem q4_ok : q4.ok := put_ok q3_ok 0 (by decide) _
set_option maxHeartbeats 8000000 in
set_option maxRecDepth 100000 in
theorem k_put0 (b be bo bt : Nat) (w : World) (hT : Tab w) (hA : PoAt w b be bo bt (Po.new 2)) :
    Calls Tryd.prog 9 #[.pointer (some ⟨b, 0, none⟩), .agg #[.int .u64 0, .int .u64 0, .int .u64 0]] w fun e w' => e = .returned (.tuple #[.int .u64 4096, .int .i64 0]) ∧ PoAt w' b be bo bt q1 ∧ Only (S3 be bo bt) w w' := by
  have h := put_free b be bo bt (Po.new 2) w hA q0_ok hT 0 0 0 0 (by decide) (by rfl) (fun y hy => absurd hy (Nat.not_lt_zero y))
  rw [show hv (Po.new 2) ((0 : Nat) : Int) = 4096 by rfl] at h
  exact h
set_option maxHeartbeats 8000000 in
set_option maxRecDepth 100000 in
theorem k_put1 (b be bo bt : Nat) (w : World) (hT : Tab w) (hA : PoAt w b be bo bt q1) :
    Calls Tryd.prog 9 #[.pointer (some ⟨b, 0, none⟩), .agg #[.int .u64 0, .int .u64 0, .int .u64 0]] w fun e w' => e = .returned (.tuple #[.int .u64 4097, .int .i64 0]) ∧ PoAt w' b be bo bt q2 ∧ Only (S3 be bo bt) w w' := by
  have h := put_free b be bo bt q1 w hA q1_ok hT 0 0 0 1 (by decide) (by rfl) low1
  rw [show hv q1 ((1 : Nat) : Int) = 4097 by rfl] at h
  exact h
set_option maxHeartbeats 8000000 in
set_option maxRecDepth 100000 in
theorem k_full (b be bo bt : Nat) (w : World) (hT : Tab w) (hA : PoAt w b be bo bt q2) :
    Calls Tryd.prog 9 #[.pointer (some ⟨b, 0, none⟩), .agg #[.int .u64 0, .int .u64 0, .int .u64 0]] w fun e w' => e = .returned (.tuple #[.int .u64 0, .int .i64 8]) ∧ Below w.heap.size w w' := by
  refine put_full b be bo bt q2 w hA q2_ok hT 0 0 0 fun y hy => ?_
  have h2 : y < 2 := hy
  have h3 : y = 0 ∨ y = 1 := by omega
  rcases h3 with rfl | rfl <;> rfl
set_option maxHeartbeats 8000000 in
set_option maxRecDepth 100000 in
theorem k_drop (b be bo bt : Nat) (w : World) (hT : Tab w) (hA : PoAt w b be bo bt q2) :
    Calls Tryd.prog 10 #[.pointer (some ⟨b, 0, none⟩), .int .u64 4096] w fun e w' => e = .returned (.bool true) ∧ PoAt w' b be bo bt q3 ∧ Only (S3 be bo bt) w w' := by
  have h := drop_yes b be bo bt q2 w hA q2_ok 0 (by decide) (by rfl)
  rw [show hv q2 ((0 : Nat) : Int) = 4096 by rfl] at h
  exact h
set_option maxHeartbeats 8000000 in
set_option maxRecDepth 100000 in
theorem k_put4 (b be bo bt : Nat) (w : World) (hT : Tab w) (hA : PoAt w b be bo bt q3) :
    Calls Tryd.prog 9 #[.pointer (some ⟨b, 0, none⟩), .agg #[.int .u64 0, .int .u64 0, .int .u64 0]] w fun e w' => e = .returned (.tuple #[.int .u64 8192, .int .i64 0]) ∧ PoAt w' b be bo bt q4 ∧ Only (S3 be bo bt) w w' := by
  have h := put_free b be bo bt q3 w hA q3_ok hT 0 0 0 0 (by decide) (by rfl) (fun y hy => absurd hy (Nat.not_lt_zero y))
  rw [show hv q3 ((0 : Nat) : Int) = 8192 by rfl] at h
  exact h
set_option maxHeartbeats 8000000 in
set_option maxRecDepth 100000 in
theorem k_get (b be bo bt : Nat) (w : World) (hA : PoAt w b be bo bt q4) :
    Calls Tryd.prog 11 #[.pointer (some ⟨b, 0, none⟩), .int .u64 4096] w fun e w' => e = .returned (.tuple #[.agg #[.int .u64 0, .int .u64 0, .int .u64 0], .bool false]) ∧ Below w.heap.size w w' := by
  exact get_no b be bo bt q4 w hA q4_ok 4096 (by decide) (by decide) (by rfl)
set_option maxHeartbeats 8000000 in
set_option maxRecDepth 100000 in
theorem known16 (w : World) (hT : Tab w) :
    Calls Tryd.prog 14 #[] w fun e w' => e = .returned (.bool true) ∧ Below w.heap.size w w' := by
  have htb := block_lt_tab hT
  have HT := Lib.hid hT
  clear hT
  go_enter Tryd.func14, Tryd.ntmps14
  go_upto_region 4 with (go_at_call 8; refine (new_any 2 _ (by decide) (by decide)).mono ?_; rintro e w1 ⟨b, be, bo, bt, rfl, ⟨g0, g1, g2, g3⟩, hA, hB⟩)
  have hns : ¬ S3 be bo bt 0 := by unfold S3; omega
  have hge : ∀ k, S3 be bo bt k → w.heap.size ≤ k := by unfold S3; intro k hk; omega
  have HNS := Lib.hid hns
  have HGE := Lib.hid hge
  have HA1 := Lib.hid hA
  have HT1 := Lib.hid (HT.out.ext hB)
  have HB1 := Lib.hid hB
  clear hA hB hns hge HT g0 g1 g2 g3
  go_upto_region 5 with (go_at_call 9; refine (k_put0 b be bo bt _ HT1.out HA1.out).mono ?_; rintro e w2 ⟨rfl, hA, hO⟩)
  have HT2 := Lib.hid (HT1.out.only hO HNS.out)
  have HB2 := Lib.hid (Only.below HB1.out hO HGE.out HB1.out.size)
  have HA2 := Lib.hid hA
  clear hA hO HA1 HT1 HB1
  go_upto_region 6 with (go_at_call 9; refine (k_put1 b be bo bt _ HT2.out HA2.out).mono ?_; rintro e w3 ⟨rfl, hA, hO⟩)
  have HT3 := Lib.hid (HT2.out.only hO HNS.out)
  have HB3 := Lib.hid (Only.below HB2.out hO HGE.out HB2.out.size)
  have HA3 := Lib.hid hA
  clear hA hO HA2 HT2 HB2
  go_upto_region 7 with (go_at_call 9; refine (k_full b be bo bt _ HT3.out HA3.out).mono ?_; rintro e w4 ⟨rfl, hb4⟩)
  have HT4 := Lib.hid (HT3.out.ext hb4)
  have HB4 := Lib.hid (below_then HB3.out hb4)
  have HA4 := Lib.hid (HA3.out.ext hb4)
  clear hb4 HA3 HT3 HB3
  go_upto_region 9 with (go_at_call 10; refine (k_drop b be bo bt _ HT4.out HA4.out).mono ?_; rintro e w5 ⟨rfl, hA, hO⟩)
  have HT5 := Lib.hid (HT4.out.only hO HNS.out)
  have HB5 := Lib.hid (Only.below HB4.out hO HGE.out HB4.out.size)
  have HA5 := Lib.hid hA
  clear hA hO HA4 HT4 HB4
  go_upto_region 10 with (go_at_call 9; refine (k_put4 b be bo bt _ HT5.out HA5.out).mono ?_; rintro e w6 ⟨rfl, hA, hO⟩)
  have HT6 := Lib.hid (HT5.out.only hO HNS.out)
  have HB6 := Lib.hid (Only.below HB5.out hO HGE.out HB5.out.size)
  have HA6 := Lib.hid hA
  clear hA hO HA5 HT5 HB5
  go_wp2_with (go_at_call 11; refine (k_get b be bo bt _ HA6.out).mono ?_; rintro e w7 ⟨rfl, hb7⟩)
  go_ret
  exact ⟨rfl, below_new (below_then HB6.out hb7) _⟩
end Go.Proofs.YtelnembjcgkiaaaDoor
