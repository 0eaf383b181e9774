/- The chapter's example; a nil controller has no lines. -/
import Derived.Test.YtaihebdjhbnhoaaDoorLnC
namespace Go.Proofs.YtaihebdjhbnhoaaDoor
open Go.RowKit
set_option linter.unusedVariables false
set_option linter.unusedSimpArgs false

theorem kput : putI 0 3 1 (bitV true) = 8 := by decide +kernel
theorem kl0 : leastI 8 0 = -1 := by decide +kernel
theorem kl8 : leastI 8 8 = 3 := by decide +kernel
theorem k_set (b : Nat) (w : World) (h : LnAt w b 0 0) : Calls Tryd.prog 10 #[.pointer (some ⟨b, 0, none⟩), .int .i64 3, .bool true] w fun e w' => e = .returned (.bool true) ∧ LnAt w' b 8 0 ∧ But b w w' := by
  have q := set_in b 0 0 w h (by decide) (by decide) (by decide) (by decide) 3 true (by decide) (by decide)
  rw [kput] at q
  exact q
theorem k_store (b : Nat) (w : World) (h : LnAt w b 8 0) : Calls Tryd.prog 8 #[.pointer (some ⟨b, 0, none⟩), .int .u32 4, .int .u32 8] w fun e w' => e = .returned (.int .i64 0) ∧ LnAt w' b 8 8 ∧ But b w w' := store_live b 8 0 w h (by decide) (by decide) (by decide) (by decide) 4 8 (by decide) (by decide)
theorem k_out0 (b : Nat) (w : World) (h : LnAt w b 8 0) (hT : Tab w) : Calls Tryd.prog 9 #[.pointer (some ⟨b, 0, none⟩)] w fun e w' => e = .returned (.bool false) ∧ Below w.heap.size w w' := by
  have q := out_live b 8 0 w h (by decide) (by decide) (by decide) (by decide) hT
  rw [kl0] at q
  exact q
theorem k_out8 (b : Nat) (w : World) (h : LnAt w b 8 8) (hT : Tab w) : Calls Tryd.prog 9 #[.pointer (some ⟨b, 0, none⟩)] w fun e w' => e = .returned (.bool true) ∧ Below w.heap.size w w' := by
  have q := out_live b 8 8 w h (by decide) (by decide) (by decide) (by decide) hT
  rw [kl8] at q
  exact q
theorem k_least (b : Nat) (w : World) (h : LnAt w b 8 8) (hT : Tab w) : Calls Tryd.prog 11 #[.pointer (some ⟨b, 0, none⟩)] w fun e w' => e = .returned (.int .i64 3) ∧ Below w.heap.size w w' := by
  have q := least_live b 8 8 w h (by decide) (by decide) (by decide) (by decide) hT
  rw [kl8] at q
  exact q
set_option maxHeartbeats 8000000 in
set_option maxRecDepth 100000 in
theorem known04 (w : World) (hT : Tab w) :
    Calls Tryd.prog 13 #[] w fun e w' => e = .returned (.bool true) ∧ Below w.heap.size w w' := by
  have HT := Lib.hid hT
  clear hT
  go_enter Tryd.func13, Tryd.ntmps13
  go_upto_region 2 with (go_at_call 6; refine (new_any _).mono ?_; rintro e w1 ⟨b, rfl, hb, hA, hB⟩)
  have HA1 := Lib.hid hA
  have HB1 := Lib.hid hB
  clear hA hB
  go_wp2_with fail
  refine (k_set b w1 HA1.out).mono ?_
  rintro e w2 ⟨rfl, hA2, hB2⟩
  have HA2 := Lib.hid hA2
  have HB2 := Lib.hid (But.below HB1.out hB2 hb HB1.out.size)
  clear hA2 hB2
  go_wp2_with fail
  refine (k_out0 b w2 HA2.out (HT.out.ext HB2.out)).mono ?_
  rintro e w3 ⟨rfl, hb3⟩
  have HA3 := Lib.hid (LnAt.ext HA2.out hb3)
  have HB3 := Lib.hid (below_then HB2.out hb3)
  clear hb3
  go_wp2_with fail
  refine (k_store b w3 HA3.out).mono ?_
  rintro e w4 ⟨rfl, hA4, hB4⟩
  have HA4 := Lib.hid hA4
  have HB4 := Lib.hid (But.below HB3.out hB4 hb HB3.out.size)
  clear hA4 hB4
  go_wp2_with fail
  refine (k_out8 b w4 HA4.out (HT.out.ext HB4.out)).mono ?_
  rintro e w5 ⟨rfl, hb5⟩
  have HA5 := Lib.hid (LnAt.ext HA4.out hb5)
  have HB5 := Lib.hid (below_then HB4.out hb5)
  clear hb5
  go_wp2_with fail
  refine (k_least b w5 HA5.out (HT.out.ext HB5.out)).mono ?_
  rintro e w6 ⟨rfl, hb6⟩
  go_wp2_with fail
  go_ret
  exact ⟨rfl, below_then HB5.out hb6⟩
set_option maxHeartbeats 8000000 in
set_option maxRecDepth 100000 in
theorem LinesNil_walk (n v : Int) (W : World) (hT : Tab W) (_ : -9223372036854775808 ≤ n) (_ : n ≤ 9223372036854775807) (v0 : 0 ≤ v) (v1 : v ≤ 4294967295) :
    Calls Tryd.prog 5 #[.int .i64 n, .int .u32 v] W fun e w' => e = .returned (.bool true) ∧ Below W.heap.size W w' := by
  have HT := Lib.hid hT
  clear hT
  go_enter Tryd.func5, Tryd.ntmps5
  refine wp_start (w := W) ?_
  intro x
  go_wp2_with (first | (go_at_call 7; refine (all_nil _ _).mono ?_; rintro e wr ⟨rfl, hbr⟩; obtain ⟨y, rfl⟩ := Ext.step _ hbr; clear hbr) | (go_at_call 17; refine (reset_nil _).mono ?_; rintro e wr ⟨rfl, hbr⟩; obtain ⟨y, rfl⟩ := Ext.step _ hbr; clear hbr) | (go_at_call 12; refine (load_nil _ _).mono ?_; rintro e wr ⟨rfl, hbr⟩; obtain ⟨y, rfl⟩ := Ext.step _ hbr; clear hbr) | (go_at_call 13; refine (known04 _ (HT.out.at _)).mono ?_; rintro e wr ⟨rfl, hbr⟩; obtain ⟨y, rfl⟩ := Ext.step _ hbr; clear hbr) | (go_at_call 10; refine (set_nil _ _ _).mono ?_; rintro e wr ⟨rfl, hbr⟩; obtain ⟨y, rfl⟩ := Ext.step _ hbr; clear hbr) | (go_at_call 21; refine (high_nil _).mono ?_; rintro e wr ⟨rfl, hbr⟩; obtain ⟨y, rfl⟩ := Ext.step _ hbr; clear hbr) | (go_at_call 8; refine (store_nil _ _ _).mono ?_; rintro e wr ⟨rfl, hbr⟩; obtain ⟨y, rfl⟩ := Ext.step _ hbr; clear hbr) | (go_at_call 9; refine (out_nil _).mono ?_; rintro e wr ⟨rfl, hbr⟩; obtain ⟨y, rfl⟩ := Ext.step _ hbr; clear hbr) | (go_at_call 11; refine (least_nil _).mono ?_; rintro e wr ⟨rfl, hbr⟩; obtain ⟨y, rfl⟩ := Ext.step _ hbr; clear hbr) | (go_at_call 18; refine (copy_nil _).mono ?_; rintro e wr ⟨rfl, hbr⟩; obtain ⟨y, rfl⟩ := Ext.step _ hbr; clear hbr))
  go_ret
  exact ⟨rfl, Ext.ok _⟩
end Go.Proofs.YtaihebdjhbnhoaaDoor
