/- The example's windows. -/
import Derived.Test.YtdhgcmodlikckaaSkB
import Derived.Test.YtdhgcmodlikckaaFree
import Derived.Deep.Cut
import Derived.WalkMore
namespace Go.Proofs.Ytdhgcmodlikckaa
open Go.RowKit
set_option linter.unusedVariables false
set_option linter.unusedSimpArgs false

/-- The example's three windows. -/
def KwAt (w : World) (bl : Nat) : Prop := RowAt w bl #[.int .u64 1, .int .u64 5, .int .u64 4, .int .u64 9, .int .u64 6, .int .u64 8] 53
theorem KwAt.ext {w w' : World} {bl : Nat} (h : KwAt w bl) (hb : Below w.heap.size w w') : KwAt w' bl := RowAt.ext h hb
theorem KwAt.cells {w : World} {bl : Nat} (h : KwAt w bl) : (w.cell? ⟨bl, 0, none⟩ = some (.int .u64 1) ∧ w.cell? ⟨bl, 1, none⟩ = some (.int .u64 5)) ∧ (w.cell? ⟨bl, 2, none⟩ = some (.int .u64 4) ∧ w.cell? ⟨bl, 3, none⟩ = some (.int .u64 9)) ∧ (w.cell? ⟨bl, 4, none⟩ = some (.int .u64 6) ∧ w.cell? ⟨bl, 5, none⟩ = some (.int .u64 8)) :=
  have h : RowAt w bl #[.int .u64 1, .int .u64 5, .int .u64 4, .int .u64 9, .int .u64 6, .int .u64 8] 53 := h
  ⟨⟨h.cell (i := 0) rfl, h.cell (i := 1) rfl⟩, ⟨h.cell (i := 2) rfl, h.cell (i := 3) rfl⟩, h.cell (i := 4) rfl, h.cell (i := 5) rfl⟩
set_option maxHeartbeats 8000000 in
set_option maxRecDepth 100000 in
theorem clo1_any (a b : Int) (w : World) :
    Calls Try.prog 66 #[.agg #[.int .u64 a, .int .u64 b]] w fun e w' => e = .returned (.bool (!decide (a ≤ b))) ∧ Below w.heap.size w w' := by
  go_enter Try.func66, Try.ntmps66
  go_wp2_with (go_at_call 32; refine (right_any a b _).mono ?_; rintro e w1 ⟨rfl, hb1⟩)
  go_ret
  exact ⟨rfl, below_then (below_new (Below.refl _ _) _) hb1⟩
set_option maxHeartbeats 8000000 in
set_option maxRecDepth 100000 in
theorem index_kw (bl : Nat) (w : World) (hk : KwAt w bl) :
    Calls Try.prog 72 #[.slice (some ⟨bl, 0, none⟩) 3 3, .func (.func 66) #[] #[]] w fun e w' => e = .returned (.int .i64 (-1)) ∧ Below w.heap.size w w' := by
  have HK := Lib.hid hk
  clear hk
  obtain ⟨⟨c0, c1⟩, ⟨c2, c3⟩, c4, c5⟩ := HK.out.cells
  go_enter Try.func72, Try.ntmps72
  go_upto_region 2 with fail
  refine wp_loop_rounds 4 ?_
  rw [rounds_succ]
  go_wp2_with (go_at_call 66; refine (clo1_any 1 5 _).mono ?_; rintro e w1 ⟨rfl, hb1⟩)
  clear c0 c1 c2 c3 c4 c5
  obtain ⟨⟨c0, c1⟩, ⟨c2, c3⟩, c4, c5⟩ := (HK.out.ext hb1).cells
  rw [rounds_succ]
  go_wp2_with (go_at_call 66; refine (clo1_any 4 9 _).mono ?_; rintro e w2 ⟨rfl, hb2⟩)
  clear c0 c1 c2 c3 c4 c5
  obtain ⟨⟨c0, c1⟩, ⟨c2, c3⟩, c4, c5⟩ := (HK.out.ext (below_then hb1 hb2)).cells
  rw [rounds_succ]
  go_wp2_with (go_at_call 66; refine (clo1_any 6 8 _).mono ?_; rintro e w3 ⟨rfl, hb3⟩)
  rw [rounds_succ]
  go_wp2_with fail
  go_ret
  exact ⟨rfl, below_then (below_then hb1 hb2) hb3⟩
set_option maxHeartbeats 8000000 in
set_option maxRecDepth 100000 in
theorem contains_kw (bl : Nat) (w : World) (hk : KwAt w bl) :
    Calls Try.prog 65 #[.slice (some ⟨bl, 0, none⟩) 3 3, .func (.func 66) #[] #[]] w fun e w' => e = .returned (.bool false) ∧ Below w.heap.size w w' := by
  have HK := Lib.hid hk
  clear hk
  go_enter Try.func65, Try.ntmps65
  go_wp2_with (go_at_call 72; refine (index_kw bl _ HK.out).mono ?_; rintro e w1 ⟨rfl, hb1⟩)
  go_ret
  exact ⟨rfl, hb1⟩
set_option maxHeartbeats 8000000 in
set_option maxRecDepth 100000 in
theorem nan_no (x : Int) (w : World) :
    Calls Try.prog 74 #[.int .u64 x] w fun e w' => e = .returned (.bool false) ∧ Below w.heap.size w w' := by
  go_enter Try.func74, Try.ntmps74
  go_wp2_with fail
  go_ret
  exact ⟨rfl, Below.refl _ _⟩
def cmpI (x y : Int) : Int := if x < y then -1 else if y < x then 1 else 0
set_option maxHeartbeats 8000000 in
set_option maxRecDepth 100000 in
theorem compare_any (x y : Int) (w : World) :
    Calls Try.prog 69 #[.int .u64 x, .int .u64 y] w fun e w' => e = .returned (.int .i64 (cmpI x y)) ∧ Below w.heap.size w w' := by
  unfold cmpI
  by_cases h1 : x < y
  · have d1 : decide (x < y) = true := dec_t h1
    rw [if_pos h1]
    go_enter Try.func69, Try.ntmps69
    go_wp2_with (first | (go_at_call 74; refine (nan_no x _).mono ?_; rintro e w1 ⟨rfl, hb1⟩) | (go_at_call 74; refine (nan_no y _).mono ?_; rintro e w2 ⟨rfl, hb2⟩))
    go_ret
    exact ⟨rfl, below_then hb1 hb2⟩
  · have d1 : decide (x < y) = false := dec_f h1
    rw [if_neg h1]
    by_cases h2 : y < x
    · have d2 : decide (y < x) = true := dec_t h2
      rw [if_pos h2]
      go_enter Try.func69, Try.ntmps69
      go_wp2_with (first | (go_at_call 74; refine (nan_no x _).mono ?_; rintro e w1 ⟨rfl, hb1⟩) | (go_at_call 74; refine (nan_no y _).mono ?_; rintro e w2 ⟨rfl, hb2⟩))
      go_ret
      exact ⟨rfl, below_then hb1 hb2⟩
    · have d2 : decide (y < x) = false := dec_f h2
      rw [if_neg h2]
      go_enter Try.func69, Try.ntmps69
      go_wp2_with (first | (go_at_call 74; refine (nan_no x _).mono ?_; rintro e w1 ⟨rfl, hb1⟩) | (go_at_call 74; refine (nan_no y _).mono ?_; rintro e w2 ⟨rfl, hb2⟩))
      go_ret
      exact ⟨rfl, below_then hb1 hb2⟩
set_option maxHeartbeats 8000000 in
set_option maxRecDepth 100000 in
theorem clo2_10 (bl bx : Nat) (w : World) (hk : KwAt w bl) (hb : w.cell? ⟨bx, 0, none⟩ = some (.slice (some ⟨bl, 0, none⟩) 3 3)) :
    Calls Try.prog 68 #[.int .i64 1, .int .i64 0, .pointer (some ⟨bx, 0, none⟩)] w fun e w' => e = .returned (.int .i64 (cmpI 9 5)) ∧ Below w.heap.size w w' := by
  obtain ⟨⟨c0, c1⟩, ⟨c2, c3⟩, c4, c5⟩ := (id hk : KwAt w bl).cells
  have HK := Lib.hid hk
  have hx := fun y : Ext w.heap.size w => y.cell hb
  have k1 := fun y : Ext w.heap.size w => y.cell c1
  have k3 := fun y : Ext w.heap.size w => y.cell c3
  have k5 := fun y : Ext w.heap.size w => y.cell c5
  clear c0 c1 c2 c3 c4 c5 hb hk
  go_enter Try.func68, Try.ntmps68
  go_upto_region 1 with fail
  refine wp_start (w := w) ?_
  intro z0
  refine wp_region_ext _ (by kernel_rfl) (by kernel_rfl) ?_
  repeat (go_big_quiet_step ((go_at_call 69; exact Ext.call (compare_any 9 5 _))))
  refine wpQuiet_nil ?_
  rintro _ ⟨y, rfl⟩
  go_wp2_with fail
  go_ret
  exact ⟨rfl, y.ok⟩
set_option maxHeartbeats 8000000 in
set_option maxRecDepth 100000 in
theorem clo2_21 (bl bx : Nat) (w : World) (hk : KwAt w bl) (hb : w.cell? ⟨bx, 0, none⟩ = some (.slice (some ⟨bl, 0, none⟩) 3 3)) :
    Calls Try.prog 68 #[.int .i64 2, .int .i64 1, .pointer (some ⟨bx, 0, none⟩)] w fun e w' => e = .returned (.int .i64 (cmpI 8 9)) ∧ Below w.heap.size w w' := by
  obtain ⟨⟨c0, c1⟩, ⟨c2, c3⟩, c4, c5⟩ := (id hk : KwAt w bl).cells
  have HK := Lib.hid hk
  have hx := fun y : Ext w.heap.size w => y.cell hb
  have k1 := fun y : Ext w.heap.size w => y.cell c1
  have k3 := fun y : Ext w.heap.size w => y.cell c3
  have k5 := fun y : Ext w.heap.size w => y.cell c5
  clear c0 c1 c2 c3 c4 c5 hb hk
  go_enter Try.func68, Try.ntmps68
  go_upto_region 1 with fail
  refine wp_start (w := w) ?_
  intro z0
  refine wp_region_ext _ (by kernel_rfl) (by kernel_rfl) ?_
  repeat (go_big_quiet_step ((go_at_call 69; exact Ext.call (compare_any 8 9 _))))
  refine wpQuiet_nil ?_
  rintro _ ⟨y, rfl⟩
  go_wp2_with fail
  go_ret
  exact ⟨rfl, y.ok⟩
set_option maxHeartbeats 8000000 in
set_option maxRecDepth 100000 in
theorem clo2_20 (bl bx : Nat) (w : World) (hk : KwAt w bl) (hb : w.cell? ⟨bx, 0, none⟩ = some (.slice (some ⟨bl, 0, none⟩) 3 3)) :
    Calls Try.prog 68 #[.int .i64 2, .int .i64 0, .pointer (some ⟨bx, 0, none⟩)] w fun e w' => e = .returned (.int .i64 (cmpI 8 5)) ∧ Below w.heap.size w w' := by
  obtain ⟨⟨c0, c1⟩, ⟨c2, c3⟩, c4, c5⟩ := (id hk : KwAt w bl).cells
  have HK := Lib.hid hk
  have hx := fun y : Ext w.heap.size w => y.cell hb
  have k1 := fun y : Ext w.heap.size w => y.cell c1
  have k3 := fun y : Ext w.heap.size w => y.cell c3
  have k5 := fun y : Ext w.heap.size w => y.cell c5
  clear c0 c1 c2 c3 c4 c5 hb hk
  go_enter Try.func68, Try.ntmps68
  go_upto_region 1 with fail
  refine wp_start (w := w) ?_
  intro z0
  refine wp_region_ext _ (by kernel_rfl) (by kernel_rfl) ?_
  repeat (go_big_quiet_step ((go_at_call 69; exact Ext.call (compare_any 8 5 _))))
  refine wpQuiet_nil ?_
  rintro _ ⟨y, rfl⟩
  go_wp2_with fail
  go_ret
  exact ⟨rfl, y.ok⟩
end Go.Proofs.Ytdhgcmodlikckaa
