/- Interrupt lines: the block, and what is asked of it simply. -/
import Derived.Test.YtaihebdjhbnhoaaDoorLnA
import Derived.Test.YtaihebdjhbnhoaaDoorTail
import Derived.Test.YtaihebdjhbnhoaaDoorPart
import Derived.Test.YtaihebdjhbnhoaaDoorGrow
import Derived.Test.YtaihebdjhbnhoaaDoorFree
import Derived.RegionTactic
import Derived.Deep.Cut
import Derived.Deep.RegionWith
import Derived.LoopTactic
namespace Go.Proofs.YtaihebdjhbnhoaaDoor
open Go.RowKit
set_option linter.unusedVariables false
set_option linter.unusedSimpArgs false

theorem wp_name {P : Program} {c : Code} {Q : Exit → Act → World → Prop} {a : Act} {W : World} {Pr : World → Prop} (h : Pr W) (k : ∀ W', Pr W' → c.wp P Q a W') : c.wp P Q a W := k W h
def LnAt (W : World) (b : Nat) (h m : Int) : Prop := RowAt W b #[.int .u32 h, .int .u32 m] 55
theorem LnAt.c0 {W : World} {b : Nat} {h m : Int} (q : LnAt W b h m) : W.cell? ⟨b, 0, none⟩ = some (.int .u32 h) := RowAt.cell q rfl
theorem LnAt.c1 {W : World} {b : Nat} {h m : Int} (q : LnAt W b h m) : W.cell? ⟨b, 1, none⟩ = some (.int .u32 m) := RowAt.cell q rfl
theorem LnAt.ext {W W' : World} {b : Nat} {h m : Int} (q : LnAt W b h m) (hb : Below W.heap.size W W') : LnAt W' b h m := RowAt.ext q hb
theorem LnAt.but {W W' : World} {b g : Nat} {h m : Int} (q : LnAt W b h m) (hb : But g W W') (hg : b ≠ g) : LnAt W' b h m := RowAt.but q hb hg
theorem and_range {a b : Int} (h0 : 0 ≤ a) (h1 : a ≤ 4294967295) (k0 : 0 ≤ b) (k1 : b ≤ 4294967295) : 0 ≤ bits .and .u32 a b ∧ bits .and .u32 a b ≤ 4294967295 := by
  obtain ⟨p, q, r⟩ := and_u32 a b h0 h1 k0 k1
  exact ⟨p, q⟩
def leastI (h m : Int) : Int := firstI (bits .and .u32 h m) 0
set_option maxHeartbeats 8000000 in
set_option maxRecDepth 100000 in
theorem new_any (w : World) :
    Calls Tryd.prog 6 #[] w fun e w' => ∃ b, e = .returned (.pointer (some ⟨b, 0, none⟩)) ∧ w.heap.size ≤ b ∧ LnAt w' b 0 0 ∧ Below w.heap.size w w' := by
  go_enter Tryd.func6, Tryd.ntmps6
  go_wp2_with fail
  go_ret
  exact ⟨_, rfl, Nat.le_refl _, RowAt.new _ _ _, below_new (Below.refl _ _) _⟩
set_option maxHeartbeats 8000000 in
set_option maxRecDepth 100000 in
theorem set_nil (n : Int) (v : Bool) (w : World) :
    Calls Tryd.prog 10 #[.pointer none, .int .i64 n, .bool v] w fun e w' => e = .returned (.bool false) ∧ Below w.heap.size w w' := by
  go_enter Tryd.func10, Tryd.ntmps10
  go_wp2_with fail
  go_ret
  exact ⟨rfl, Below.refl _ _⟩
set_option maxHeartbeats 8000000 in
set_option maxRecDepth 100000 in
theorem all_nil (v : Int) (w : World) :
    Calls Tryd.prog 7 #[.pointer none, .int .u32 v] w fun e w' => e = .returned (.tuple #[]) ∧ Below w.heap.size w w' := by
  go_enter Tryd.func7, Tryd.ntmps7
  go_wp2_with fail
  go_end0
  exact ⟨rfl, Below.refl _ _⟩
set_option maxHeartbeats 8000000 in
set_option maxRecDepth 100000 in
theorem high_nil (w : World) :
    Calls Tryd.prog 21 #[.pointer none] w fun e w' => e = .returned (.int .u32 0) ∧ Below w.heap.size w w' := by
  go_enter Tryd.func21, Tryd.ntmps21
  go_wp2_with fail
  go_ret
  exact ⟨rfl, Below.refl _ _⟩
set_option maxHeartbeats 8000000 in
set_option maxRecDepth 100000 in
theorem least_nil (w : World) :
    Calls Tryd.prog 11 #[.pointer none] w fun e w' => e = .returned (.int .i64 (-1)) ∧ Below w.heap.size w w' := by
  go_enter Tryd.func11, Tryd.ntmps11
  go_wp2_with fail
  go_ret
  exact ⟨rfl, Below.refl _ _⟩
set_option maxHeartbeats 8000000 in
set_option maxRecDepth 100000 in
theorem reset_nil (w : World) :
    Calls Tryd.prog 17 #[.pointer none] w fun e w' => e = .returned (.tuple #[]) ∧ Below w.heap.size w w' := by
  go_enter Tryd.func17, Tryd.ntmps17
  go_wp2_with fail
  go_end0
  exact ⟨rfl, Below.refl _ _⟩
set_option maxHeartbeats 8000000 in
set_option maxRecDepth 100000 in
theorem copy_nil (w : World) :
    Calls Tryd.prog 18 #[.pointer none] w fun e w' => e = .returned (.pointer none) ∧ Below w.heap.size w w' := by
  go_enter Tryd.func18, Tryd.ntmps18
  go_wp2_with fail
  go_ret
  exact ⟨rfl, Below.refl _ _⟩
set_option maxHeartbeats 8000000 in
set_option maxRecDepth 100000 in
theorem out_nil (w : World) :
    Calls Tryd.prog 9 #[.pointer none] w fun e w' => e = .returned (.bool false) ∧ Below w.heap.size w w' := by
  go_enter Tryd.func9, Tryd.ntmps9
  go_wp2_with (go_at_call 11; refine (least_nil _).mono ?_; rintro e w1 ⟨rfl, hb1⟩)
  go_ret
  exact ⟨rfl, hb1⟩
set_option maxHeartbeats 8000000 in
set_option maxRecDepth 100000 in
theorem asked_nil (off : Int) (f : Value) (w : World) :
    Calls Tryd.prog 22 #[.pointer none, .int .u32 off, f] w fun e w' => e = .returned (.int .i64 10) ∧ Below w.heap.size w w' := by
  go_enter Tryd.func22, Tryd.ntmps22
  go_wp2_with fail
  go_ret
  exact ⟨rfl, Below.refl _ _⟩
set_option maxHeartbeats 8000000 in
set_option maxRecDepth 100000 in
theorem load_nil (off : Int) (w : World) :
    Calls Tryd.prog 12 #[.pointer none, .int .u32 off] w fun e w' => e = .returned (.tuple #[.int .u32 0, .int .i64 10]) ∧ Below w.heap.size w w' := by
  go_enter Tryd.func12, Tryd.ntmps12
  go_upto_region 2 with (fail)
  have R0 : RowAt (w.alloc (.cells #[.int .u32 0] 27)) w.heap.size #[.int .u32 0] 27 := RowAt.new _ _ _
  go_wp2_with (go_at_call 22; refine (asked_nil _ _ _).mono ?_; rintro e w1 ⟨rfl, hb1⟩; have e0 := RowAt.cell (RowAt.ext R0 (by simpa using hb1)) (i := 0) rfl)
  go_ret2
  exact ⟨rfl, below_then (below_new (Below.refl _ _) _) hb1⟩
set_option maxHeartbeats 8000000 in
set_option maxRecDepth 100000 in
theorem store_nil (off v : Int) (w : World) :
    Calls Tryd.prog 8 #[.pointer none, .int .u32 off, .int .u32 v] w fun e w' => e = .returned (.int .i64 10) ∧ Below w.heap.size w w' := by
  go_enter Tryd.func8, Tryd.ntmps8
  go_wp2_with (go_at_call 22; refine (asked_nil _ _ _).mono ?_; rintro e w1 ⟨rfl, hb1⟩)
  go_ret
  exact ⟨rfl, below_then (below_new (Below.refl _ _) _) hb1⟩
set_option maxHeartbeats 8000000 in
set_option maxRecDepth 100000 in
theorem high_live (b : Nat) (h m : Int) (w : World) (hA : LnAt w b h m) :
    Calls Tryd.prog 21 #[.pointer (some ⟨b, 0, none⟩)] w fun e w' => e = .returned (.int .u32 h) ∧ Below w.heap.size w w' := by
  have e0 := hA.c0
  have e1 := hA.c1
  have fz := RowAt.frozen hA
  have HA := Lib.hid hA
  clear hA
  go_enter Tryd.func21, Tryd.ntmps21
  go_wp2_with fail
  go_ret
  exact ⟨rfl, Below.refl _ _⟩
set_option maxHeartbeats 8000000 in
set_option maxRecDepth 100000 in
theorem all_live (b : Nat) (h m : Int) (w : World) (hA : LnAt w b h m) (v : Int) :
    Calls Tryd.prog 7 #[.pointer (some ⟨b, 0, none⟩), .int .u32 v] w fun e w' => e = .returned (.tuple #[]) ∧ LnAt w' b v m ∧ But b w w' := by
  have e0 := hA.c0
  have e1 := hA.c1
  have fz := RowAt.frozen hA
  have HA := Lib.hid hA
  clear hA
  go_enter Tryd.func7, Tryd.ntmps7
  go_wp2_with fail
  go_end0
  exact ⟨rfl, RowAt.set HA.out 0 _, (But.refl _ _).set _ _⟩
set_option maxHeartbeats 8000000 in
set_option maxRecDepth 100000 in
theorem reset_live (b : Nat) (h m : Int) (w : World) (hA : LnAt w b h m) :
    Calls Tryd.prog 17 #[.pointer (some ⟨b, 0, none⟩)] w fun e w' => e = .returned (.tuple #[]) ∧ LnAt w' b h 0 ∧ But b w w' := by
  have e0 := hA.c0
  have e1 := hA.c1
  have fz := RowAt.frozen hA
  have HA := Lib.hid hA
  clear hA
  go_enter Tryd.func17, Tryd.ntmps17
  go_wp2_with fail
  go_end0
  exact ⟨rfl, RowAt.set HA.out 1 _, (But.refl _ _).set _ _⟩
set_option maxHeartbeats 8000000 in
set_option maxRecDepth 100000 in
theorem copy_live (b : Nat) (h m : Int) (w : World) (hA : LnAt w b h m) :
    Calls Tryd.prog 18 #[.pointer (some ⟨b, 0, none⟩)] w fun e w' => ∃ b', e = .returned (.pointer (some ⟨b', 0, none⟩)) ∧ w.heap.size ≤ b' ∧ LnAt w' b' h m ∧ Below w.heap.size w w' := by
  have e0 := hA.c0
  have e1 := hA.c1
  go_enter Tryd.func18, Tryd.ntmps18
  go_wp2_with fail
  go_ret
  exact ⟨_, rfl, Nat.le_refl _, RowAt.new _ _ _, below_new (Below.refl _ _) _⟩
set_option maxHeartbeats 8000000 in
set_option maxRecDepth 100000 in
theorem set_out (b : Nat) (h m : Int) (w : World) (hA : LnAt w b h m) (n : Int) (v : Bool) (hn : n < 0 ∨ 32 ≤ n) :
    Calls Tryd.prog 10 #[.pointer (some ⟨b, 0, none⟩), .int .i64 n, .bool v] w fun e w' => e = .returned (.bool false) ∧ Below w.heap.size w w' := by
  by_cases h0 : n < 0
  · have t0 : decide (n < 0) = true := dec_t h0
    clear hn h0
    go_enter Tryd.func10, Tryd.ntmps10
    go_wp2_with fail
    go_ret
    exact ⟨rfl, Below.refl _ _⟩
  · have t0 : decide (n < 0) = false := dec_f h0
    have t1 : decide (32 ≤ n) = true := dec_t (by omega)
    clear hn h0
    go_enter Tryd.func10, Tryd.ntmps10
    go_wp2_with fail
    go_ret
    exact ⟨rfl, Below.refl _ _⟩
def bitV (v : Bool) : Int := if v then 1 else 0
set_option maxHeartbeats 8000000 in
set_option maxRecDepth 100000 in
theorem set_in (b : Nat) (h m : Int) (w : World) (hA : LnAt w b h m) (h0 : 0 ≤ h) (h1 : h ≤ 4294967295) (m0 : 0 ≤ m) (m1 : m ≤ 4294967295) (n : Int) (v : Bool) (n0 : 0 ≤ n) (n1 : n < 32) :
    Calls Tryd.prog 10 #[.pointer (some ⟨b, 0, none⟩), .int .i64 n, .bool v] w fun e w' => e = .returned (.bool true) ∧ LnAt w' b (putI h n 1 (bitV v)) m ∧ But b w w' := by
  have t0 : decide (n < 0) = false := dec_f (by omega)
  have t1 : decide (32 ≤ n) = false := dec_f (by omega)
  have e0 := hA.c0
  have HA := Lib.hid hA
  clear hA
  cases v with
  | true =>
    go_enter Tryd.func10, Tryd.ntmps10
    go_wp2_with (go_at_call 24; refine (Put_any h n 1 1 _ h0 h1 (by decide) (by decide) (by omega) (by omega) (by decide) (by decide)).mono ?_; rintro e w2 ⟨rfl, hb2⟩; have hA2 := LnAt.ext HA.out hb2; have e2 := hA2.c0; have fz := RowAt.frozen hA2)
    go_ret
    exact ⟨rfl, RowAt.set hA2 0 _, (but_of hb2 b).set _ _⟩
  | false =>
    go_enter Tryd.func10, Tryd.ntmps10
    go_wp2_with (go_at_call 24; refine (Put_any h n 1 0 _ h0 h1 (by decide) (by decide) (by omega) (by omega) (by decide) (by decide)).mono ?_; rintro e w2 ⟨rfl, hb2⟩; have hA2 := LnAt.ext HA.out hb2; have e2 := hA2.c0; have fz := RowAt.frozen hA2)
    go_ret
    exact ⟨rfl, RowAt.set hA2 0 _, (but_of hb2 b).set _ _⟩
set_option maxHeartbeats 8000000 in
set_option maxRecDepth 100000 in
theorem least_live (b : Nat) (h m : Int) (w : World) (hA : LnAt w b h m) (h0 : 0 ≤ h) (h1 : h ≤ 4294967295) (m0 : 0 ≤ m) (m1 : m ≤ 4294967295) (hT : Tab w) :
    Calls Tryd.prog 11 #[.pointer (some ⟨b, 0, none⟩)] w fun e w' => e = .returned (.int .i64 (leastI h m)) ∧ Below w.heap.size w w' := by
  have s0 : ∀ x : Ext w.heap.size w, x.world.cell? ⟨b, 0, none⟩ = some (.int .u32 h) := fun x => x.cell hA.c0
  have s1 : ∀ x : Ext w.heap.size w, x.world.cell? ⟨b, 1, none⟩ = some (.int .u32 m) := fun x => x.cell hA.c1
  have HT := Lib.hid hT
  have HA := Lib.hid hA
  obtain ⟨r0, r1⟩ := and_range h0 h1 m0 m1
  clear hA hT
  by_cases hz : h = 0
  · subst hz
    by_cases hz2 : m = 0
    · subst hz2
      go_enter Tryd.func11, Tryd.ntmps11
      refine wp_start (w := w) ?_
      intro x
      go_wp2_with fail
      go_ret
      exact ⟨rfl, x.ok⟩
    · go_enter Tryd.func11, Tryd.ntmps11
      refine wp_start (w := w) ?_
      intro x
      go_wp2_with fail
      refine wp_region_ext _ (by kernel_rfl) (by kernel_rfl) ?_
      repeat (go_big_quiet_step ((go_at_call 25; exact Ext.call (first_any _ 0 _ r0 (by omega) (HT.out.at _)))))
      refine wpQuiet_nil ?_
      rintro _ ⟨y, rfl⟩
      go_wp2_with fail
      go_ret
      exact ⟨rfl, y.ok⟩
  · go_enter Tryd.func11, Tryd.ntmps11
    refine wp_start (w := w) ?_
    intro x
    go_wp2_with fail
    refine wp_region_ext _ (by kernel_rfl) (by kernel_rfl) ?_
    repeat (go_big_quiet_step ((go_at_call 25; exact Ext.call (first_any _ 0 _ r0 (by omega) (HT.out.at _)))))
    refine wpQuiet_nil ?_
    rintro _ ⟨y, rfl⟩
    go_wp2_with fail
    go_ret
    exact ⟨rfl, y.ok⟩
set_option maxHeartbeats 8000000 in
set_option maxRecDepth 100000 in
theorem out_live (b : Nat) (h m : Int) (w : World) (hA : LnAt w b h m) (h0 : 0 ≤ h) (h1 : h ≤ 4294967295) (m0 : 0 ≤ m) (m1 : m ≤ 4294967295) (hT : Tab w) :
    Calls Tryd.prog 9 #[.pointer (some ⟨b, 0, none⟩)] w fun e w' => e = .returned (.bool (decide (0 ≤ leastI h m))) ∧ Below w.heap.size w w' := by
  have HA := Lib.hid hA
  have HT := Lib.hid hT
  clear hA hT
  go_enter Tryd.func9, Tryd.ntmps9
  go_wp2_with (go_at_call 11; refine (least_live b h m _ HA.out h0 h1 m0 m1 HT.out).mono ?_; rintro e w1 ⟨rfl, hb1⟩)
  go_ret
  exact ⟨rfl, hb1⟩
end Go.Proofs.YtaihebdjhbnhoaaDoor
