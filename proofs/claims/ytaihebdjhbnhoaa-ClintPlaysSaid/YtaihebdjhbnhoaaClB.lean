/- The clint: Tick, Reset, New, Copy, Line, Soft. -/
import Derived.Test.YtaihebdjhbnhoaaClA
namespace Go.Proofs.Ytaihebdjhbnhoaa
open Go.RowKit
set_option linter.unusedVariables false
set_option linter.unusedSimpArgs false
set_option maxHeartbeats 8000000 in
set_option maxRecDepth 100000 in
theorem tick_live (b : Nat) (c : Cl) (w : World) (hA : ClAt w b c) (ok : c.ok) (n : Int) (n0 : 0 ≤ n) (n1 : n ≤ 18446744073709551615) :
    Calls Try.prog 29 #[.pointer (some ⟨b, 0, none⟩), .int .u64 n] w fun e w' => e = .returned (.tuple #[]) ∧ ClAt w' b { c with time := addI c.time n } ∧ But b w w' := by
  have e0 := hA.c0
  have HA := Lib.hid hA
  go_enter Try.func29, Try.ntmps29
  go_wp2_with (go_at_call 55; refine (add_any _ _ _ ok.t0 ok.t1 n0 n1).mono ?_; rintro e w1 ⟨rfl, hb1⟩; have fz := RowAt.frozen (ClAt.ext HA.out hb1); have e1 := (ClAt.ext HA.out hb1).c0)
  go_end0
  exact ⟨rfl, by have q := RowAt.set (RowAt.ext HA.out hb1) 0 (.int .u64 (addI c.time n)); rw [Cl.set_time] at q; exact q, (but_of hb1 b).set _ _⟩
/-- The harts while they are set anew. -/
def newF (f : Nat → Int) (v : Int) (k : Nat) : Nat → Int := fun i => if i < k then v else f i
theorem newF_step (f : Nat → Int) (v : Int) (k : Nat) : upd (newF f v k) k v = newF f v (k + 1) := by
  funext i
  unfold upd newF
  by_cases h : i = k
  · subst h; simp
  · rw [if_neg h]
    by_cases h2 : i < k
    · rw [if_pos h2, if_pos (by omega)]
    · rw [if_neg h2, if_neg (by omega)]
theorem cells_reset (c : Cl) : ({ c with cmp := newF c.cmp 18446744073709551615 8, soft := newF c.soft 0 8 } : Cl).cells = ({ c with cmp := fun _ => 18446744073709551615, soft := fun _ => 0 } : Cl).cells := rfl
set_option maxHeartbeats 8000000 in
set_option maxRecDepth 100000 in
theorem reset_live (b : Nat) (c : Cl) (w : World) (hA : ClAt w b c) :
    Calls Try.prog 39 #[.pointer (some ⟨b, 0, none⟩)] w fun e w' => e = .returned (.tuple #[]) ∧ ClAt w' b { c with cmp := fun _ => 18446744073709551615, soft := fun _ => 0 } ∧ But b w w' := by
  go_enter Try.func39, Try.ntmps39
  go_wp2_with fail
  go_loopw [5] (fun i wr => ∃ k : Nat, k ≤ 8 ∧ i = .int .i64 k ∧ ClAt wr b { c with cmp := newF c.cmp 18446744073709551615 k, soft := newF c.soft 0 k } ∧ But b w wr) (fun i _ => 8 - (intOf i).toNat)
  case atStart => exact ⟨0, by omega, rfl, hA, But.refl _ _⟩
  case round =>
    obtain ⟨k, hk, rfl, hR, hB⟩ := hrel
    by_cases hlt : k < 8
    · have i0 : (0 : Int) ≤ (k : Int) := by omega
      have i1 : (k : Int) < 8 := by omega
      obtain ⟨hkR, hfR⟩ := Ext.cells hR
      have c0 : ∀ x : Ext wr.heap.size wr, x.world.cell? ⟨b, 1 + k * 2, none⟩ = some (.int .u64 (newF c.cmp 18446744073709551615 k k)) := fun x => (hkR x _).trans (Cl.cell_cmp _ hlt)
      have c1 : ∀ x : Ext wr.heap.size wr, x.world.cell? ⟨b, 1 + k * 2 + 1, none⟩ = some (.int .u32 (newF c.soft 0 k k)) := fun x => (hkR x _).trans (Cl.cell_soft _ hlt)
      have f0 : ∀ x : Ext wr.heap.size wr, x.world.frozen? ⟨b, 1 + k * 2, none⟩ = false := fun x => hfR x _
      have f1 : ∀ x : Ext wr.heap.size wr, x.world.frozen? ⟨b, 1 + k * 2 + 1, none⟩ = false := fun x => hfR x _
      have HR := Lib.hid hR
      have HB := Lib.hid hB
      clear hkR hfR hR hB
      refine wp_start (w := wr) ?_
      intro x
      go_wp2_with fail
      refine wp_region_ext_tail _ 6 (by kernel_rfl) (by kernel_rfl) (by kernel_rfl) ?_
      simp only [List.take_succ_cons, List.take_zero, List.drop_succ_cons, List.drop_zero]
      repeat (go_big_quiet_step ((go_at_call 62; exact Ext.call (fresh_any _))))
      refine wpQuiet_nil ?_
      rintro _ ⟨y, rfl⟩
      go_wp2_with fail
      have q := RowAt.set (RowAt.set (RowAt.ext HR.out y.ok) (1 + k * 2) (.int .u64 18446744073709551615)) (1 + k * 2 + 1) (.int .u32 0)
      rw [Cl.set_cmp _ hlt, Cl.set_soft _ hlt] at q
      simp only [newF_step] at q
      refine ⟨⟨k + 1, by omega, by simp, q, ((HB.out.trans (but_of y.ok b)).set _ _).set _ _⟩, ?_⟩
      simp only [intOf]
      omega
    · obtain rfl : k = 8 := by omega
      go_wp2_with fail
      go_end0
      exact ⟨rfl, hR, hB⟩
/-- A fresh clint. -/
def clNew (n : Nat) : Cl := ⟨0, fun _ => 18446744073709551615, fun _ => 0, n⟩
theorem clNew_ok {n : Nat} (h : n ≤ 8) : (clNew n).ok := by constructor <;> simp [clNew] <;> first | omega | (intro i; omega)
set_option maxHeartbeats 8000000 in
set_option maxRecDepth 100000 in
theorem new_bad (n : Int) (w : World) (h : n < 1 ∨ 8 < n) :
    Calls Try.prog 26 #[.int .i64 n] w fun e w' => e = .returned (.tuple #[.pointer none, .int .i64 5]) ∧ Below w.heap.size w w' := by
  by_cases h1 : n < 1
  · have t1 : decide (n < 1) = true := dec_t h1
    clear h
    go_enter Try.func26, Try.ntmps26
    go_wp2_with fail
    go_ret2
    exact ⟨rfl, Below.refl _ _⟩
  · have t1 : decide (n < 1) = false := dec_f h1
    have t2 : decide (8 < n) = true := dec_t (by omega)
    clear h
    go_enter Try.func26, Try.ntmps26
    go_wp2_with fail
    go_ret2
    exact ⟨rfl, Below.refl _ _⟩
set_option maxHeartbeats 8000000 in
set_option maxRecDepth 100000 in
theorem new_good (n : Nat) (w : World) (n1 : 1 ≤ n) (n8 : n ≤ 8) :
    Calls Try.prog 26 #[.int .i64 (n : Int)] w fun e w' => ∃ b, e = .returned (.tuple #[.pointer (some ⟨b, 0, none⟩), .int .i64 0]) ∧ w.heap.size ≤ b ∧ ClAt w' b (clNew n) ∧ Below w.heap.size w w' := by
  have t1 : decide ((n : Int) < 1) = false := dec_f (by omega)
  have t2 : decide (8 < (n : Int)) = false := dec_f (by omega)
  have t3 : decide (n < 1) = false := dec_f (by omega)
  have t4 : decide (8 < n) = false := dec_f (by omega)
  have q : ClAt (w.alloc (.cells (⟨0, fun _ => 0, fun _ => 0, n⟩ : Cl).cells 85)) w.heap.size ⟨0, fun _ => 0, fun _ => 0, n⟩ := RowAt.new _ _ _
  have HQ := Lib.hid (reset_live _ _ _ q)
  have HQQ := Lib.hid q
  clear q n1 n8
  go_enter Try.func26, Try.ntmps26
  go_wp2_with (go_at_call 39; refine HQ.out.mono ?_; rintro e w1 ⟨rfl, hA1, hB1⟩)
  go_ret2
  exact ⟨_, rfl, Nat.le_refl _, hA1, But.below (below_new (Below.refl _ _) _) hB1 (Nat.le_refl _) (by simp)⟩
theorem Cl.one (c : Cl) : c.cells.all (·.oneCell') = true := by simp [Cl.cells, Value.oneCell']
set_option maxHeartbeats 8000000 in
set_option maxRecDepth 100000 in
theorem copy_live (b : Nat) (c : Cl) (w : World) (hA : ClAt w b c) :
    Calls Try.prog 28 #[.pointer (some ⟨b, 0, none⟩)] w fun e w' => ∃ b', e = .returned (.pointer (some ⟨b', 0, none⟩)) ∧ w.heap.size ≤ b' ∧ ClAt w' b' c ∧ Below w.heap.size w w' := by
  have hL : w.heap[b]? = some (.cells c.cells 85 (0, 0)) := hA
  have hi : (Try.prog.info? 85).map (·.size) = some c.cells.size := by kernel_rfl
  have HA := Lib.hid hA
  clear hA
  go_enter Try.func28, Try.ntmps28
  go_wp2_with (first | (refine wpList_load_row rfl 85 (.tmp 7) rfl b rfl _ _ (0, 0) _ hL Try.underlying85 rfl hi ?_) | (refine wpList_store_row rfl 85 (.tmp 3) (.tmp 8) rfl w.heap.size c.cells rfl rfl 85 _ (heap_alloc_new w _) hi rfl (Cl.one c) ?_))
  go_ret
  refine ⟨w.heap.size, rfl, Nat.le_refl _, ?_, ?_⟩
  · exact RowAt.setRow (RowAt.new w _ _) _
  · exact ⟨rfl, rfl, rfl, by simp, fun k hk => by
      simp only [World.setRow, Array.getElem?_modify]
      rw [if_neg (by omega)]
      exact Below.heap_alloc _ _ _ hk⟩
set_option maxHeartbeats 8000000 in
set_option maxRecDepth 100000 in
theorem line1 (b g : Nat) (c : Cl) (w : World) (x s : Int) (hA : ClAt w b c) (hg : w.cell? ⟨g, 0, none⟩ = some (.pointer (some ⟨b, 0, none⟩))) :
    Calls Try.prog 57 #[.agg #[.int .u64 x, .int .u32 s], .pointer (some ⟨g, 0, none⟩)] w fun e w' => e = .returned (.bool (decide (x ≤ c.time))) ∧ Below w.heap.size w w' := by
  go_enter Try.func57, Try.ntmps57
  go_wp2_with fail
  refine wp_box ?_
  intro W hB b0 hW
  have R0 : RowAt W w.heap.size #[.int .u64 x, .int .u32 s] 82 := b0
  have e0 := (hB.cell (World.block_lt_of_cell? w _ hg)).trans hg
  have e1 := (ClAt.ext hA hB).c0
  have e2 := RowAt.cell R0 (i := 0) rfl
  have k0 := fun x : Ext W.heap.size W => x.cell e0
  have k1 := fun x : Ext W.heap.size W => x.cell e1
  have k2 := fun x : Ext W.heap.size W => x.cell e2
  clear e0 e1 e2 b0 hA hg
  refine wp_start (w := W) ?_
  intro x
  refine wp_region_ext _ (by kernel_rfl) (by kernel_rfl) ?_
  repeat (go_big_quiet_step (fail))
  refine wpQuiet_nil ?_
  rintro _ ⟨y, rfl⟩
  go_wp2_with fail
  go_ret
  exact ⟨rfl, below_then hB y.ok⟩
set_option maxHeartbeats 8000000 in
set_option maxRecDepth 100000 in
theorem soft1 (w : World) (x s : Int) :
    Calls Try.prog 65 #[.agg #[.int .u64 x, .int .u32 s]] w fun e w' => e = .returned (.bool (s == 1)) ∧ Below w.heap.size w w' := by
  go_enter Try.func65, Try.ntmps65
  go_wp2_with fail
  go_ret
  exact ⟨rfl, below_new (Below.refl _ _) _⟩
set_option maxHeartbeats 8000000 in
set_option maxRecDepth 100000 in
theorem is_line_nil (h : Int) (w : World) (g : Nat) :
    Calls Try.prog 56 #[.pointer none, .int .i64 h, .func (.func 57) #[] #[.pointer (some ⟨g, 0, none⟩)]] w fun e w' => e = .returned (.bool false) ∧ Below w.heap.size w w' := by
  go_enter Try.func56, Try.ntmps56
  go_wp2_with (go_at_call 58; refine (has_nil _ _).mono ?_; rintro e w' ⟨rfl, hb⟩)
  go_ret
  exact ⟨rfl, hb⟩
set_option maxHeartbeats 8000000 in
set_option maxRecDepth 100000 in
theorem is_soft_nil (h : Int) (w : World) (g : Nat) :
    Calls Try.prog 56 #[.pointer none, .int .i64 h, .func (.func 65) #[] #[]] w fun e w' => e = .returned (.bool false) ∧ Below w.heap.size w w' := by
  go_enter Try.func56, Try.ntmps56
  go_wp2_with (go_at_call 58; refine (has_nil _ _).mono ?_; rintro e w' ⟨rfl, hb⟩)
  go_ret
  exact ⟨rfl, hb⟩
set_option maxHeartbeats 8000000 in
set_option maxRecDepth 100000 in
theorem is_line (b : Nat) (c : Cl) (w : World) (hA : ClAt w b c) (hn : c.n ≤ 8) (h : Int) (g : Nat) (hg : w.cell? ⟨g, 0, none⟩ = some (.pointer (some ⟨b, 0, none⟩))) :
    Calls Try.prog 56 #[.pointer (some ⟨b, 0, none⟩), .int .i64 h, .func (.func 57) #[] #[.pointer (some ⟨g, 0, none⟩)]] w fun e w' => e = .returned (.bool (hasB c h && decide (c.cmp h.toNat ≤ c.time))) ∧ Below w.heap.size w w' := by
  have HA := Lib.hid hA
  cases hb : hasB c h with
  | false =>
    go_enter Try.func56, Try.ntmps56
    go_wp2_with (go_at_call 58; refine (has_live b c _ HA.out h).mono ?_; rw [hb]; rintro e w' ⟨rfl, hb1⟩)
    go_ret
    exact ⟨rfl, hb1⟩
  | true =>
    obtain ⟨k, rfl, hk⟩ := hasB_nat hb
    have k8 : (k : Int) < 8 := by omega
    have k0 : (0 : Int) ≤ (k : Int) := by omega
    have hk8 : k < 8 := by omega
    have HB := Lib.hid hb
    clear hb hk hA
    go_enter Try.func56, Try.ntmps56
    go_wp2_with (first | (go_at_call 58; refine (has_live b c _ HA.out _).mono ?_; rw [HB.out]; rintro e w' ⟨rfl, hb1⟩; have e1 := (ClAt.ext HA.out hb1).cc hk8; have e2 := (ClAt.ext HA.out hb1).cs hk8) | (go_at_call 57; refine (line1 b g c _ _ _ (ClAt.ext HA.out hb1) ((hb1.cell (World.block_lt_of_cell? w _ hg)).trans hg)).mono ?_; rintro e w2 ⟨rfl, hb2⟩))
    go_ret
    exact ⟨rfl, below_then hb1 hb2⟩
set_option maxHeartbeats 8000000 in
set_option maxRecDepth 100000 in
theorem is_soft (b : Nat) (c : Cl) (w : World) (hA : ClAt w b c) (hn : c.n ≤ 8) (h : Int) (g : Nat) :
    Calls Try.prog 56 #[.pointer (some ⟨b, 0, none⟩), .int .i64 h, .func (.func 65) #[] #[]] w fun e w' => e = .returned (.bool (hasB c h && (c.soft h.toNat == 1))) ∧ Below w.heap.size w w' := by
  have HA := Lib.hid hA
  cases hb : hasB c h with
  | false =>
    go_enter Try.func56, Try.ntmps56
    go_wp2_with (go_at_call 58; refine (has_live b c _ HA.out h).mono ?_; rw [hb]; rintro e w' ⟨rfl, hb1⟩)
    go_ret
    exact ⟨rfl, hb1⟩
  | true =>
    obtain ⟨k, rfl, hk⟩ := hasB_nat hb
    have k8 : (k : Int) < 8 := by omega
    have k0 : (0 : Int) ≤ (k : Int) := by omega
    have hk8 : k < 8 := by omega
    have HB := Lib.hid hb
    clear hb hk hA
    go_enter Try.func56, Try.ntmps56
    go_wp2_with (first | (go_at_call 58; refine (has_live b c _ HA.out _).mono ?_; rw [HB.out]; rintro e w' ⟨rfl, hb1⟩; have e1 := (ClAt.ext HA.out hb1).cc hk8; have e2 := (ClAt.ext HA.out hb1).cs hk8) | (go_at_call 65; refine (soft1 _ _ _).mono ?_; rintro e w2 ⟨rfl, hb2⟩))
    go_ret
    exact ⟨rfl, below_then hb1 hb2⟩
def lineB (c : Cl) (h : Int) : Bool := hasB c h && decide (c.cmp h.toNat ≤ c.time)
def softB (c : Cl) (h : Int) : Bool := hasB c h && (c.soft h.toNat == 1)
set_option maxHeartbeats 8000000 in
set_option maxRecDepth 100000 in
theorem line_nil (h : Int) (w : World) :
    Calls Try.prog 30 #[.pointer none, .int .i64 h] w fun e w' => e = .returned (.bool false) ∧ Below w.heap.size w w' := by
  have hmf : ∀ (fn : Fn) (first cap : Array Value) (w : World), (Instr.makeFunc fn first cap).run Try.prog w = .ok (.func fn first cap) w := fun _ _ _ _ => rfl
  go_enter Try.func30, Try.ntmps30
  go_wp2_with (go_at_call 56; refine (is_line_nil _ _ _).mono ?_; rintro e w' ⟨rfl, hb⟩)
  go_ret
  exact ⟨rfl, below_then (below_new (Below.refl _ _) _) hb⟩
set_option maxHeartbeats 8000000 in
set_option maxRecDepth 100000 in
theorem soft_nil (h : Int) (w : World) :
    Calls Try.prog 43 #[.pointer none, .int .i64 h] w fun e w' => e = .returned (.bool false) ∧ Below w.heap.size w w' := by
  have hmf : ∀ (fn : Fn) (first cap : Array Value) (w : World), (Instr.makeFunc fn first cap).run Try.prog w = .ok (.func fn first cap) w := fun _ _ _ _ => rfl
  go_enter Try.func43, Try.ntmps43
  go_wp2_with (go_at_call 56; refine (is_soft_nil _ _ 0).mono ?_; rintro e w' ⟨rfl, hb⟩)
  go_ret
  exact ⟨rfl, hb⟩
set_option maxHeartbeats 8000000 in
set_option maxRecDepth 100000 in
theorem line_live (b : Nat) (c : Cl) (w : World) (hA : ClAt w b c) (hn : c.n ≤ 8) (h : Int) :
    Calls Try.prog 30 #[.pointer (some ⟨b, 0, none⟩), .int .i64 h] w fun e w' => e = .returned (.bool (lineB c h)) ∧ Below w.heap.size w w' := by
  have HA := Lib.hid hA
  clear hA
  have hmf : ∀ (fn : Fn) (first cap : Array Value) (w : World), (Instr.makeFunc fn first cap).run Try.prog w = .ok (.func fn first cap) w := fun _ _ _ _ => rfl
  have HQ := Lib.hid (is_line b c (w.alloc (.cells #[.pointer (some ⟨b, 0, none⟩)] 44)) (RowAt.alloc HA.out _) hn h w.heap.size (RowAt.cell (RowAt.new w _ _) rfl))
  go_enter Try.func30, Try.ntmps30
  go_wp2_with (go_at_call 56; refine HQ.out.mono ?_; rintro e w' ⟨rfl, hb⟩)
  go_ret
  exact ⟨rfl, below_then (below_new (Below.refl _ _) _) hb⟩
set_option maxHeartbeats 8000000 in
set_option maxRecDepth 100000 in
theorem soft_live (b : Nat) (c : Cl) (w : World) (hA : ClAt w b c) (hn : c.n ≤ 8) (h : Int) :
    Calls Try.prog 43 #[.pointer (some ⟨b, 0, none⟩), .int .i64 h] w fun e w' => e = .returned (.bool (softB c h)) ∧ Below w.heap.size w w' := by
  have HA := Lib.hid hA
  clear hA
  have hmf : ∀ (fn : Fn) (first cap : Array Value) (w : World), (Instr.makeFunc fn first cap).run Try.prog w = .ok (.func fn first cap) w := fun _ _ _ _ => rfl
  go_enter Try.func43, Try.ntmps43
  go_wp2_with (go_at_call 56; refine (is_soft b c _ HA.out hn h 0).mono ?_; rintro e w' ⟨rfl, hb⟩)
  go_ret
  exact ⟨rfl, hb⟩
end Go.Proofs.Ytaihebdjhbnhoaa
