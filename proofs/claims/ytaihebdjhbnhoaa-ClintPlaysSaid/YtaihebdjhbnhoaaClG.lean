/- The chapter's example; a nil clint has no time. -/
import Derived.Test.YtaihebdjhbnhoaaClF
namespace Go.Proofs.Ytaihebdjhbnhoaa
open Go.RowKit
set_option linter.unusedVariables false
set_option linter.unusedSimpArgs false

theorem tick_ok {c : Cl} (ok : c.ok) {n : Int} (n0 : 0 ≤ n) (n1 : n ≤ 18446744073709551615) : ({ c with time := addI c.time n } : Cl).ok := by
  have h0 := ok.t0
  have h1 := ok.t1
  refine ⟨?_, ?_, ok.c0, ok.c1, ok.s0, ok.s1, ok.n1⟩ <;> (simp only [addI]; split <;> omega)
theorem k_one : storeI (clNew 1) 16384 4 = ((storeI (clNew 1) 16384 4).1, 0) := rfl
def kc1 : Cl := (storeI (clNew 1) 16384 4).1
def kc2 : Cl := (storeI kc1 16388 0).1
def kc3 : Cl := { kc2 with time := addI kc2.time 3 }
def kc4 : Cl := { kc3 with time := addI kc3.time 1 }
theorem kc1_ok : kc1.ok := storeI_ok (clNew_ok (by decide)) _ (by decide) (by decide)
theorem kc2_ok : kc2.ok := storeI_ok kc1_ok _ (by decide) (by decide)
theorem kc3_ok : kc3.ok := tick_ok kc2_ok (by decide) (by decide)
theorem kc4_ok : kc4.ok := tick_ok kc3_ok (by decide) (by decide)
theorem k_store1 (b : Nat) (w : World) (h : ClAt w b (clNew 1)) : Calls Try.prog 27 #[.pointer (some ⟨b, 0, none⟩), .int .u32 16384, .int .u32 4] w fun e w' => e = .returned (.int .i64 0) ∧ ClAt w' b kc1 ∧ But b w w' :=
  store_live b (clNew 1) w h (clNew_ok (by decide)) 16384 4 (by decide) (by decide) (by decide)
theorem k_store2 (b : Nat) (w : World) (h : ClAt w b kc1) : Calls Try.prog 27 #[.pointer (some ⟨b, 0, none⟩), .int .u32 16388, .int .u32 0] w fun e w' => e = .returned (.int .i64 0) ∧ ClAt w' b kc2 ∧ But b w w' :=
  store_live b kc1 w h kc1_ok 16388 0 (by decide) (by decide) (by decide)
theorem k_tick1 (b : Nat) (w : World) (h : ClAt w b kc2) : Calls Try.prog 29 #[.pointer (some ⟨b, 0, none⟩), .int .u64 3] w fun e w' => e = .returned (.tuple #[]) ∧ ClAt w' b kc3 ∧ But b w w' := tick_live b kc2 w h kc2_ok 3 (by decide) (by decide)
theorem k_tick2 (b : Nat) (w : World) (h : ClAt w b kc3) : Calls Try.prog 29 #[.pointer (some ⟨b, 0, none⟩), .int .u64 1] w fun e w' => e = .returned (.tuple #[]) ∧ ClAt w' b kc4 ∧ But b w w' := tick_live b kc3 w h kc3_ok 1 (by decide) (by decide)
theorem k_line1 (b : Nat) (w : World) (h : ClAt w b kc3) : Calls Try.prog 30 #[.pointer (some ⟨b, 0, none⟩), .int .i64 0] w fun e w' => e = .returned (.bool false) ∧ Below w.heap.size w w' := by
  have q := line_live b kc3 w h kc3_ok.n1 0
  rw [show lineB kc3 0 = false by decide +kernel] at q
  exact q
theorem k_line2 (b : Nat) (w : World) (h : ClAt w b kc4) : Calls Try.prog 30 #[.pointer (some ⟨b, 0, none⟩), .int .i64 0] w fun e w' => e = .returned (.bool true) ∧ Below w.heap.size w w' := by
  have q := line_live b kc4 w h kc4_ok.n1 0
  rw [show lineB kc4 0 = true by decide +kernel] at q
  exact q
set_option maxHeartbeats 8000000 in
set_option maxRecDepth 100000 in
theorem known05 (w : World) :
    Calls Try.prog 32 #[] w fun e w' => e = .returned (.bool true) ∧ Below w.heap.size w w' := by
  go_enter Try.func32, Try.ntmps32
  go_upto_region 2 with (go_at_call 26; refine (new_good 1 _ (by decide) (by decide)).mono ?_; rintro e w1 ⟨b, rfl, hb, hA, hB⟩)
  have HA1 := Lib.hid hA
  have HB1 := Lib.hid hB
  clear hA hB
  go_wp2_with fail
  refine (k_store1 b w1 HA1.out).mono ?_
  rintro e w2 ⟨rfl, hA2, hB2⟩
  have HA2 := Lib.hid hA2
  have HB2 := Lib.hid (But.below HB1.out hB2 hb HB1.out.size)
  clear hA2 hB2
  go_wp2_with fail
  refine (k_store2 b w2 HA2.out).mono ?_
  rintro e w3 ⟨rfl, hA3, hB3⟩
  have HA3 := Lib.hid hA3
  have HB3 := Lib.hid (But.below HB2.out hB3 hb HB2.out.size)
  clear hA3 hB3
  go_wp2_with fail
  refine (k_tick1 b w3 HA3.out).mono ?_
  rintro e w4 ⟨rfl, hA4, hB4⟩
  have HA4 := Lib.hid hA4
  have HB4 := Lib.hid (But.below HB3.out hB4 hb HB3.out.size)
  clear hA4 hB4
  go_wp2_with fail
  refine (k_line1 b w4 HA4.out).mono ?_
  rintro e w5 ⟨rfl, hb5⟩
  have HA5 := Lib.hid (ClAt.ext HA4.out hb5)
  have HB5 := Lib.hid (below_then HB4.out hb5)
  clear hb5
  go_wp2_with fail
  refine (k_tick2 b w5 HA5.out).mono ?_
  rintro e w6 ⟨rfl, hA6, hB6⟩
  have HA6 := Lib.hid hA6
  have HB6 := Lib.hid (But.below HB5.out hB6 hb HB5.out.size)
  clear hA6 hB6
  go_wp2_with fail
  refine (k_line2 b w6 HA6.out).mono ?_
  rintro e w7 ⟨rfl, hb7⟩
  go_wp2_with fail
  go_ret
  exact ⟨rfl, below_then HB6.out hb7⟩
set_option maxHeartbeats 8000000 in
set_option maxRecDepth 100000 in
theorem ClintNil_walk (off v n : Int) (W : World) (o0 : 0 ≤ off) (o1 : off ≤ 4294967295) (v0 : 0 ≤ v) (v1 : v ≤ 4294967295) (n0 : 0 ≤ n) (n1 : n ≤ 18446744073709551615) :
    Calls Try.prog 10 #[.int .u32 off, .int .u32 v, .int .u64 n] W fun e w' => e = .returned (.bool true) ∧ Below W.heap.size W w' := by
  go_enter Try.func10, Try.ntmps10
  refine wp_start (w := W) ?_
  intro x
  go_wp2_with (first | (go_at_call 29; refine (tick_nil _ _).mono ?_; rintro e wr ⟨rfl, hbr⟩; obtain ⟨y, rfl⟩ := Ext.step _ hbr; clear hbr) | (go_at_call 39; refine (reset_nil _).mono ?_; rintro e wr ⟨rfl, hbr⟩; obtain ⟨y, rfl⟩ := Ext.step _ hbr; clear hbr) | (go_at_call 37; refine (load_nil _ _).mono ?_; rintro e wr ⟨rfl, hbr⟩; obtain ⟨y, rfl⟩ := Ext.step _ hbr; clear hbr) | (go_at_call 32; refine (known05 _).mono ?_; rintro e wr ⟨rfl, hbr⟩; obtain ⟨y, rfl⟩ := Ext.step _ hbr; clear hbr) | (go_at_call 42; refine (harts_nil _).mono ?_; rintro e wr ⟨rfl, hbr⟩; obtain ⟨y, rfl⟩ := Ext.step _ hbr; clear hbr) | (go_at_call 31; refine (time_nil _).mono ?_; rintro e wr ⟨rfl, hbr⟩; obtain ⟨y, rfl⟩ := Ext.step _ hbr; clear hbr) | (go_at_call 33; refine (compare_nil _ _).mono ?_; rintro e wr ⟨rfl, hbr⟩; obtain ⟨y, rfl⟩ := Ext.step _ hbr; clear hbr) | (go_at_call 30; refine (line_nil _ _).mono ?_; rintro e wr ⟨rfl, hbr⟩; obtain ⟨y, rfl⟩ := Ext.step _ hbr; clear hbr) | (go_at_call 43; refine (soft_nil _ _).mono ?_; rintro e wr ⟨rfl, hbr⟩; obtain ⟨y, rfl⟩ := Ext.step _ hbr; clear hbr) | (go_at_call 27; refine (store_nil _ _ _).mono ?_; rintro e wr ⟨rfl, hbr⟩; obtain ⟨y, rfl⟩ := Ext.step _ hbr; clear hbr) | (go_at_call 28; refine (copy_nil _).mono ?_; rintro e wr ⟨rfl, hbr⟩; obtain ⟨y, rfl⟩ := Ext.step _ hbr; clear hbr))
  go_ret
  exact ⟨rfl, Ext.ok _⟩
end Go.Proofs.Ytaihebdjhbnhoaa
