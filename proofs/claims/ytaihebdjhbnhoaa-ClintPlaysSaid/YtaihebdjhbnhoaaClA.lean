/- The clint: its block, New and Reset, and what is asked of it simply. -/
import Derived.Test.YtaihebdjhbnhoaaWordsC
import Derived.Test.YtaihebdjhbnhoaaTail
import Derived.Test.YtaihebdjhbnhoaaPart
import Derived.Test.YtaihebdjhbnhoaaGrow
import Derived.RegionTactic
import Derived.Deep.Cut
import Derived.Deep.RegionWith
import Derived.LoopTactic
namespace Go.Proofs.Ytaihebdjhbnhoaa
open Go.RowKit
set_option linter.unusedVariables false
set_option linter.unusedSimpArgs false

theorem wp_name {P : Program} {c : Code} {Q : Exit → Act → World → Prop} {a : Act} {W : World} {Pr : World → Prop} (h : Pr W) (k : ∀ W', Pr W' → c.wp P Q a W') : c.wp P Q a W := k W h
structure Cl where
  time : Int
  cmp : Nat → Int
  soft : Nat → Int
  n : Nat
structure Cl.ok (c : Cl) : Prop where
  t0 : 0 ≤ c.time
  t1 : c.time ≤ 18446744073709551615
  c0 : ∀ i, 0 ≤ c.cmp i
  c1 : ∀ i, c.cmp i ≤ 18446744073709551615
  s0 : ∀ i, 0 ≤ c.soft i
  s1 : ∀ i, c.soft i ≤ 4294967295
  n1 : c.n ≤ 8
def Cl.cells (c : Cl) : Array Value := #[.int .u64 c.time, .int .u64 (c.cmp 0), .int .u32 (c.soft 0), .int .u64 (c.cmp 1), .int .u32 (c.soft 1), .int .u64 (c.cmp 2), .int .u32 (c.soft 2), .int .u64 (c.cmp 3), .int .u32 (c.soft 3), .int .u64 (c.cmp 4), .int .u32 (c.soft 4), .int .u64 (c.cmp 5), .int .u32 (c.soft 5), .int .u64 (c.cmp 6), .int .u32 (c.soft 6), .int .u64 (c.cmp 7), .int .u32 (c.soft 7), .int .i64 c.n]
def ClAt (W : World) (b : Nat) (c : Cl) : Prop := RowAt W b c.cells 85
def upd (f : Nat → Int) (k : Nat) (v : Int) : Nat → Int := fun i => if i = k then v else f i
theorem lt8 {k : Nat} (h : k < 8) : k = 0 ∨ k = 1 ∨ k = 2 ∨ k = 3 ∨ k = 4 ∨ k = 5 ∨ k = 6 ∨ k = 7 := by omega
theorem Cl.cell_cmp (c : Cl) {k : Nat} (h : k < 8) : c.cells[1 + k * 2]? = some (.int .u64 (c.cmp k)) := by
  rcases lt8 h with rfl | rfl | rfl | rfl | rfl | rfl | rfl | rfl <;> rfl
theorem Cl.cell_soft (c : Cl) {k : Nat} (h : k < 8) : c.cells[1 + k * 2 + 1]? = some (.int .u32 (c.soft k)) := by
  rcases lt8 h with rfl | rfl | rfl | rfl | rfl | rfl | rfl | rfl <;> rfl
theorem Cl.set_cmp (c : Cl) {k : Nat} (h : k < 8) (v : Int) : c.cells.setIfInBounds (1 + k * 2) (.int .u64 v) = ({ c with cmp := upd c.cmp k v } : Cl).cells := by
  rcases lt8 h with rfl | rfl | rfl | rfl | rfl | rfl | rfl | rfl <;> rfl
theorem Cl.set_soft (c : Cl) {k : Nat} (h : k < 8) (v : Int) : c.cells.setIfInBounds (1 + k * 2 + 1) (.int .u32 v) = ({ c with soft := upd c.soft k v } : Cl).cells := by
  rcases lt8 h with rfl | rfl | rfl | rfl | rfl | rfl | rfl | rfl <;> rfl
theorem Cl.set_time (c : Cl) (v : Int) : c.cells.setIfInBounds 0 (.int .u64 v) = ({ c with time := v } : Cl).cells := rfl
theorem ClAt.ext {W W' : World} {b : Nat} {c : Cl} (h : ClAt W b c) (hb : Below W.heap.size W W') : ClAt W' b c := RowAt.ext h hb
theorem ClAt.but {W W' : World} {b g : Nat} {c : Cl} (h : ClAt W b c) (hb : But g W W') (hg : b ≠ g) : ClAt W' b c := RowAt.but h hb hg
theorem ClAt.c0 {W : World} {b : Nat} {c : Cl} (h : ClAt W b c) : W.cell? ⟨b, 0, none⟩ = some (.int .u64 c.time) := RowAt.cell h rfl
theorem ClAt.cn {W : World} {b : Nat} {c : Cl} (h : ClAt W b c) : W.cell? ⟨b, 17, none⟩ = some (.int .i64 c.n) := RowAt.cell h rfl
theorem ClAt.cc {W : World} {b : Nat} {c : Cl} (h : ClAt W b c) {k : Nat} (hk : k < 8) : W.cell? ⟨b, 1 + k * 2, none⟩ = some (.int .u64 (c.cmp k)) := RowAt.cell h (c.cell_cmp hk)
theorem ClAt.cs {W : World} {b : Nat} {c : Cl} (h : ClAt W b c) {k : Nat} (hk : k < 8) : W.cell? ⟨b, 1 + k * 2 + 1, none⟩ = some (.int .u32 (c.soft k)) := RowAt.cell h (c.cell_soft hk)
set_option maxHeartbeats 8000000 in
set_option maxRecDepth 100000 in
theorem fresh_any (w : World) :
    Calls Try.prog 62 #[] w fun e w' => e = .returned (.agg #[.int .u64 18446744073709551615, .int .u32 0]) ∧ Below w.heap.size w w' := by
  go_enter Try.func62, Try.ntmps62
  go_wp2_with fail
  refine bodyPost_ret (v := .agg #[.int .u64 18446744073709551615, .int .u32 0]) (by simp [results, Try.results62, go_sem]) rfl ?_
  exact ⟨rfl, below_new (Below.refl _ _) _⟩
set_option maxHeartbeats 8000000 in
set_option maxRecDepth 100000 in
theorem harts_nil (w : World) :
    Calls Try.prog 42 #[.pointer none] w fun e w' => e = .returned (.int .i64 0) ∧ Below w.heap.size w w' := by
  go_enter Try.func42, Try.ntmps42
  go_wp2_with fail
  go_ret
  exact ⟨rfl, Below.refl _ _⟩
set_option maxHeartbeats 8000000 in
set_option maxRecDepth 100000 in
theorem harts_live (b : Nat) (c : Cl) (w : World) (hA : ClAt w b c) :
    Calls Try.prog 42 #[.pointer (some ⟨b, 0, none⟩)] w fun e w' => e = .returned (.int .i64 c.n) ∧ Below w.heap.size w w' := by
  have e0 := hA.cn
  go_enter Try.func42, Try.ntmps42
  go_wp2_with fail
  go_ret
  exact ⟨rfl, Below.refl _ _⟩
set_option maxHeartbeats 8000000 in
set_option maxRecDepth 100000 in
theorem time_nil (w : World) :
    Calls Try.prog 31 #[.pointer none] w fun e w' => e = .returned (.int .u64 0) ∧ Below w.heap.size w w' := by
  go_enter Try.func31, Try.ntmps31
  go_wp2_with fail
  go_ret
  exact ⟨rfl, Below.refl _ _⟩
set_option maxHeartbeats 8000000 in
set_option maxRecDepth 100000 in
theorem time_live (b : Nat) (c : Cl) (w : World) (hA : ClAt w b c) :
    Calls Try.prog 31 #[.pointer (some ⟨b, 0, none⟩)] w fun e w' => e = .returned (.int .u64 c.time) ∧ Below w.heap.size w w' := by
  have e0 := hA.c0
  go_enter Try.func31, Try.ntmps31
  go_wp2_with fail
  go_ret
  exact ⟨rfl, Below.refl _ _⟩
set_option maxHeartbeats 8000000 in
set_option maxRecDepth 100000 in
theorem has_nil (h : Int) (w : World) :
    Calls Try.prog 58 #[.pointer none, .int .i64 h] w fun e w' => e = .returned (.bool false) ∧ Below w.heap.size w w' := by
  go_enter Try.func58, Try.ntmps58
  go_wp2_with fail
  go_ret
  exact ⟨rfl, Below.refl _ _⟩
def hasB (c : Cl) (h : Int) : Bool := decide (0 ≤ h) && decide (h < (c.n : Int))
theorem hasB_nat {c : Cl} {h : Int} (hb : hasB c h = true) : ∃ k : Nat, h = (k : Int) ∧ k < c.n := by
  unfold hasB at hb
  simp at hb
  exact ⟨h.toNat, by omega, by omega⟩
set_option maxHeartbeats 8000000 in
set_option maxRecDepth 100000 in
theorem has_live (b : Nat) (c : Cl) (w : World) (hA : ClAt w b c) (h : Int) :
    Calls Try.prog 58 #[.pointer (some ⟨b, 0, none⟩), .int .i64 h] w fun e w' => e = .returned (.bool (hasB c h)) ∧ Below w.heap.size w w' := by
  have e0 := hA.cn
  by_cases h0 : 0 ≤ h
  · by_cases h1 : h < (c.n : Int)
    · have eB : hasB c h = true := by unfold hasB; simp [h0, h1]
      rw [eB]
      have t0 : decide (0 ≤ h) = true := dec_t h0
      have t1 : decide (h < (c.n : Int)) = true := dec_t h1
      clear eB
      go_enter Try.func58, Try.ntmps58
      go_wp2_with fail
      go_ret
      exact ⟨rfl, Below.refl _ _⟩
    · have eB : hasB c h = false := by unfold hasB; simp [h0, h1]
      rw [eB]
      have t0 : decide (0 ≤ h) = true := dec_t h0
      have t1 : decide (h < (c.n : Int)) = false := dec_f h1
      clear eB
      go_enter Try.func58, Try.ntmps58
      go_wp2_with fail
      go_ret
      exact ⟨rfl, Below.refl _ _⟩
  · have eB : hasB c h = false := by unfold hasB; simp [h0]
    rw [eB]
    have t0 : decide (0 ≤ h) = false := dec_f h0
    clear eB
    go_enter Try.func58, Try.ntmps58
    go_wp2_with fail
    go_ret
    exact ⟨rfl, Below.refl _ _⟩
set_option maxHeartbeats 8000000 in
set_option maxRecDepth 100000 in
theorem compare_nil (h : Int) (w : World) :
    Calls Try.prog 33 #[.pointer none, .int .i64 h] w fun e w' => e = .returned (.int .u64 18446744073709551615) ∧ Below w.heap.size w w' := by
  go_enter Try.func33, Try.ntmps33
  go_wp2_with (go_at_call 58; refine (has_nil _ _).mono ?_; rintro e w' ⟨rfl, hb⟩)
  go_ret
  exact ⟨rfl, hb⟩
def cmpI (c : Cl) (h : Int) : Int := if hasB c h then c.cmp h.toNat else 18446744073709551615
set_option maxHeartbeats 8000000 in
set_option maxRecDepth 100000 in
theorem compare_live (b : Nat) (c : Cl) (w : World) (hA : ClAt w b c) (hn : c.n ≤ 8) (h : Int) :
    Calls Try.prog 33 #[.pointer (some ⟨b, 0, none⟩), .int .i64 h] w fun e w' => e = .returned (.int .u64 (cmpI c h)) ∧ Below w.heap.size w w' := by
  have HA := Lib.hid hA
  unfold cmpI
  cases hb : hasB c h with
  | false =>
    simp only [Bool.false_eq_true, if_false]
    go_enter Try.func33, Try.ntmps33
    go_wp2_with (go_at_call 58; refine (has_live b c _ HA.out h).mono ?_; rw [hb]; rintro e w' ⟨rfl, hb1⟩)
    go_ret
    exact ⟨rfl, hb1⟩
  | true =>
    simp only [if_true]
    obtain ⟨k, rfl, hk⟩ := hasB_nat hb
    have k8 : (k : Int) < 8 := by omega
    have k0 : (0 : Int) ≤ (k : Int) := by omega
    have hk8 : k < 8 := by omega
    have HB := Lib.hid hb
    clear hb hk hA
    go_enter Try.func33, Try.ntmps33
    go_wp2_with (go_at_call 58; refine (has_live b c _ HA.out _).mono ?_; rw [HB.out]; rintro e w' ⟨rfl, hb1⟩; have e1 := (ClAt.ext HA.out hb1).cc hk8)
    go_ret
    exact ⟨rfl, hb1⟩
set_option maxHeartbeats 8000000 in
set_option maxRecDepth 100000 in
theorem tick_nil (n : Int) (w : World) :
    Calls Try.prog 29 #[.pointer none, .int .u64 n] w fun e w' => e = .returned (.tuple #[]) ∧ Below w.heap.size w w' := by
  go_enter Try.func29, Try.ntmps29
  go_wp2_with fail
  go_end0
  exact ⟨rfl, Below.refl _ _⟩
set_option maxHeartbeats 8000000 in
set_option maxRecDepth 100000 in
theorem reset_nil (w : World) :
    Calls Try.prog 39 #[.pointer none] w fun e w' => e = .returned (.tuple #[]) ∧ Below w.heap.size w w' := by
  go_enter Try.func39, Try.ntmps39
  go_wp2_with fail
  refine bodyPost_ret (results_none rfl _ _ _) rfl ?_
  exact ⟨rfl, Below.refl _ _⟩
set_option maxHeartbeats 8000000 in
set_option maxRecDepth 100000 in
theorem copy_nil (w : World) :
    Calls Try.prog 28 #[.pointer none] w fun e w' => e = .returned (.pointer none) ∧ Below w.heap.size w w' := by
  go_enter Try.func28, Try.ntmps28
  go_wp2_with fail
  go_ret
  exact ⟨rfl, Below.refl _ _⟩
end Go.Proofs.Ytaihebdjhbnhoaa
