/- A nil pool has no entries. -/
import Derived.Test.YtelnembjcgkiaaaDoorPoI
namespace Go.Proofs.YtelnembjcgkiaaaDoor
open Go.RowKit
set_option linter.unusedVariables false
set_option linter.unusedSimpArgs false
set_option maxHeartbeats 8000000 in
set_option maxRecDepth 100000 in
theorem handles_nil (w : World) (h at_ e1 e2 e3 : Int) :
    Calls Tryd.prog 28 #[.pointer none] w fun e w' => e = .returned (.slice none 0 0) ∧ Below w.heap.size w w' := by
  go_enter Tryd.func28, Tryd.ntmps28
  go_wp2_with fail
  go_ret
  exact ⟨rfl, Below.refl _ _⟩
set_option maxHeartbeats 8000000 in
set_option maxRecDepth 100000 in
theorem clear_nil (w : World) (h at_ e1 e2 e3 : Int) :
    Calls Tryd.prog 16 #[.pointer none] w fun e w' => e = .returned (.int .i64 0) ∧ Below w.heap.size w w' := by
  go_enter Tryd.func16, Tryd.ntmps16
  go_wp2_with (go_at_call 28; refine (handles_nil _ 0 0 0 0 0).mono ?_; rintro e w1 ⟨rfl, hb1⟩)
  refine wp_loop_rounds 1 ?_
  rw [rounds_succ]
  go_wp2_with fail
  go_ret
  exact ⟨rfl, hb1⟩
set_option maxHeartbeats 8000000 in
set_option maxRecDepth 100000 in
theorem set_nil (w : World) (h at_ e1 e2 e3 : Int) :
    Calls Tryd.prog 23 #[.pointer none, .int .u64 h, .agg #[.int .u64 e1, .int .u64 e2, .int .u64 e3]] w fun e w' => e = .returned (.bool false) ∧ Below w.heap.size w w' := by
  go_enter Tryd.func23, Tryd.ntmps23
  go_wp2_with (go_at_call 33; refine (find_nil _ _).mono ?_; rintro e w1 ⟨rfl, hb1⟩)
  go_ret
  exact ⟨rfl, below_then (below_new (Below.refl _ _) _) (below_new hb1 _)⟩
set_option maxHeartbeats 8000000 in
set_option maxRecDepth 100000 in
theorem handle_nil (w : World) (h at_ e1 e2 e3 : Int) :
    Calls Tryd.prog 17 #[.pointer none, .int .i64 at_] w fun e w' => e = .returned (.int .u64 0) ∧ Below w.heap.size w w' := by
  go_enter Tryd.func17, Tryd.ntmps17
  go_wp2_with fail
  go_ret
  exact ⟨rfl, Below.refl _ _⟩
set_option maxHeartbeats 8000000 in
set_option maxRecDepth 100000 in
theorem room_nil (w : World) (h at_ e1 e2 e3 : Int) :
    Calls Tryd.prog 29 #[.pointer none] w fun e w' => e = .returned (.int .i64 0) ∧ Below w.heap.size w w' := by
  go_enter Tryd.func29, Tryd.ntmps29
  go_wp2_with fail
  go_ret
  exact ⟨rfl, Below.refl _ _⟩
set_option maxHeartbeats 8000000 in
set_option maxRecDepth 100000 in
theorem copy_nil (w : World) (h at_ e1 e2 e3 : Int) :
    Calls Tryd.prog 25 #[.pointer none] w fun e w' => e = .returned (.pointer none) ∧ Below w.heap.size w w' := by
  go_enter Tryd.func25, Tryd.ntmps25
  go_wp2_with fail
  go_ret
  exact ⟨rfl, Below.refl _ _⟩
theorem en_fields : Tryd.prog.eqGuardType Tryd.prog.depth 32 = false := by kernel_rfl
set_option maxHeartbeats 8000000 in
set_option maxRecDepth 100000 in
theorem PoolNil_walk (h at_ : Int) (w : World) (hT : Tab w) (h0 : 0 ≤ h) (h1 : h ≤ 18446744073709551615) (_ : -9223372036854775808 ≤ at_) (_ : at_ ≤ 9223372036854775807) :
    Calls Tryd.prog 7 #[.int .u64 h, .int .i64 at_] w fun e w' => e = .returned (.bool true) ∧ Below w.heap.size w w' := by
  have HT := Lib.hid hT
  clear hT
  go_enter Tryd.func7, Tryd.ntmps7
  go_upto_region 3 with (go_at_call 9; refine (put_nil 0 0 0 _).mono ?_; rintro e w1 ⟨rfl, hb1⟩)
  go_upto_region 4 with (go_at_call 11; refine (get_nil h _).mono ?_; rintro e w2 ⟨rfl, hb2⟩)
  refine wp_name (Pr := fun W => RowAt W w2.heap.size #[.int .u64 0, .int .u64 0, .int .u64 0] 32 ∧ Tab W ∧ Below w.heap.size w W) ⟨RowAt.new w2 _ _, HT.out.ext (below_new (below_then hb1 hb2) _), below_new (below_then hb1 hb2) _⟩ ?_
  obtain ⟨ge, hge⟩ : ∃ g, w2.heap.size = g := ⟨_, rfl⟩
  rw [hge]
  clear HT hb1 hb2 hge
  rintro W ⟨hE, hT, hB⟩
  obtain ⟨hkE, _⟩ := Ext.cells hE
  have s0 : ∀ y : Ext W.heap.size W, y.world.cell? ⟨ge, 0, none⟩ = some (.int .u64 0) := fun y => hkE y 0
  have s1 : ∀ y : Ext W.heap.size W, y.world.cell? ⟨ge, 1, none⟩ = some (.int .u64 0) := fun y => hkE y 1
  have s2 : ∀ y : Ext W.heap.size W, y.world.cell? ⟨ge, 2, none⟩ = some (.int .u64 0) := fun y => hkE y 2
  have HT := Lib.hid hT
  have HB := Lib.hid hB
  clear hE hT hB hkE
  refine wp_start (w := W) ?_
  intro x
  go_wp2_with (first | (go_at_call 14; refine (known16 _ (HT.out.ext (Ext.ok _))).mono ?_; rintro e wr ⟨rfl, hbr⟩; obtain ⟨y, rfl⟩ := Ext.step _ hbr; clear hbr) | (go_at_call 23; refine (set_nil _ _ 0 _ _ _).mono ?_; rintro e wr ⟨rfl, hbr⟩; obtain ⟨y, rfl⟩ := Ext.step _ hbr; clear hbr) | (go_at_call 10; refine (drop_nil _ _).mono ?_; rintro e wr ⟨rfl, hbr⟩; obtain ⟨y, rfl⟩ := Ext.step _ hbr; clear hbr) | (go_at_call 16; refine (clear_nil _ 0 0 0 0 0).mono ?_; rintro e wr ⟨rfl, hbr⟩; obtain ⟨y, rfl⟩ := Ext.step _ hbr; clear hbr) | (go_at_call 12; refine (place_nil _ _).mono ?_; rintro e wr ⟨rfl, hbr⟩; obtain ⟨y, rfl⟩ := Ext.step _ hbr; clear hbr) | (go_at_call 17; refine (handle_nil _ 0 _ 0 0 0).mono ?_; rintro e wr ⟨rfl, hbr⟩; obtain ⟨y, rfl⟩ := Ext.step _ hbr; clear hbr) | (go_at_call 28; refine (handles_nil _ 0 0 0 0 0).mono ?_; rintro e wr ⟨rfl, hbr⟩; obtain ⟨y, rfl⟩ := Ext.step _ hbr; clear hbr) | (go_at_call 13; refine (live_nil _).mono ?_; rintro e wr ⟨rfl, hbr⟩; obtain ⟨y, rfl⟩ := Ext.step _ hbr; clear hbr) | (go_at_call 29; refine (room_nil _ 0 0 0 0 0).mono ?_; rintro e wr ⟨rfl, hbr⟩; obtain ⟨y, rfl⟩ := Ext.step _ hbr; clear hbr) | (go_at_call 25; refine (copy_nil _ 0 0 0 0 0).mono ?_; rintro e wr ⟨rfl, hbr⟩; obtain ⟨y, rfl⟩ := Ext.step _ hbr; clear hbr))
  go_ret
  exact ⟨rfl, below_then HB.out (Ext.ok _)⟩
end Go.Proofs.YtelnembjcgkiaaaDoor
