/- The document's clint: Line, Tick, Reset, New. -/
import Derived.Test.YtaihebdjhbnhoaaClI
namespace Go.Proofs.Ytaihebdjhbnhoaa
open Go.RowKit
set_option linter.unusedVariables false
set_option linter.unusedSimpArgs false

theorem ref_one (c : Cl) : c.ref.all (·.oneCell') = true := rcells_one _ _ _ _ _
set_option maxHeartbeats 8000000 in
set_option maxRecDepth 100000 in
theorem rline_any (c : Cl) (ok : c.ok) (h : Int) (w : World) :
    Calls Try.prog 64 #[.agg c.ref, .int .i64 h] w fun e w' => e = .returned (.bool (lineB c h)) ∧ Below w.heap.size w w' := by
  cases hb : hasB c h with
  | true =>
    obtain ⟨k, rfl, hk⟩ := hasB_nat hb
    have hn := ok.n1
    have k8 : (k : Int) < 8 := by omega
    have k0 : (0 : Int) ≤ (k : Int) := by omega
    have hk8 : k < 8 := by omega
    have t0 : decide ((k : Int) < 0) = false := dec_f (by omega)
    have t1 : decide ((c.n : Int) ≤ (k : Int)) = false := dec_f (by omega)
    have t1' : decide (c.n ≤ k) = false := dec_f (by omega)
    have t2 : decide (0 ≤ (k : Int)) = true := dec_t (by omega)
    have t3 : decide ((k : Int) < (c.n : Int)) = true := dec_t (by omega)
    have t3' : decide (k < c.n) = true := dec_t hk
    have HBB := Lib.hid hb
    clear hb
    go_enter Try.func64, Try.ntmps64
    go_upto_region 1 with (fail)
    refine wp_box ?_
    intro W hB b0 hW
    have R0 : RowAt W w.heap.size (rcells c.time (fun i => c.cmp i % 4294967296) (fun i => c.cmp i / 4294967296) c.soft c.n) 57 := b0
    have e25 : W.cell? ⟨w.heap.size, 25, none⟩ = some (.int .i64 c.n) := RowAt.cell R0 rfl
    have e0 : W.cell? ⟨w.heap.size, 0, none⟩ = some (.int .u64 c.time) := RowAt.cell R0 rfl
    have kk := Ext.cells R0
    have s0 : ∀ x : Ext W.heap.size W, x.world.cell? ⟨w.heap.size, 0, none⟩ = some (.int .u64 c.time) := fun x => x.cell e0
    have s1 : ∀ x : Ext W.heap.size W, x.world.cell? ⟨w.heap.size, 25, none⟩ = some (.int .i64 c.n) := fun x => x.cell e25
    have hg : ∀ w', (∃ y : Ext W.heap.size W, w' = y.world) → ∀ j v, c.ref.toList[j]? = some v → w'.cell? ⟨w.heap.size, 0 + j, none⟩ = some v := by
      rintro _ ⟨y, rfl⟩ j v hv
      rw [Nat.zero_add, kk.1 y j]
      have hv2 : c.ref[j]? = some v := by simpa using hv
      exact hv2
    have HG := Lib.hid hg
    have hi : (Try.prog.info? 57).map (·.size) = some c.ref.toList.length := by kernel_rfl
    clear kk hg e0 e25 R0 b0
    refine wp_start (w := W) ?_
    intro x
    refine wp_region_ext _ (by kernel_rfl) (by kernel_rfl) ?_
    iterate 11 (go_big_quiet_step (fail))
    refine wpQuiet_load_part rfl 57 (.tmp 2) rfl w.heap.size 0 rfl c.ref.toList _ (by intro w' hw'; exact HG.out w' hw') Try.underlying57 rfl hi ?_
    simp only [Act.put, List.setIfInBounds_toArray, List.set_cons_succ, List.set_cons_zero]
    repeat (go_big_quiet_step ((go_at_call 63; exact Ext.call (rcompare_any c ok (k : Int) _))))
    refine wpQuiet_nil ?_
    rintro _ ⟨y, rfl⟩
    go_wp2_with fail
    go_ret
    refine ⟨ret_bool ?_, below_then hB y.ok⟩
    simp [lineB, cmpI, HBB.out]
  | false =>
    have hno : h < 0 ∨ (c.n : Int) ≤ h := by
      unfold hasB at hb
      simp at hb
      omega
    have HBB := Lib.hid hb
    clear hb
    by_cases h0 : h < 0
    · have t0 : decide (h < 0) = true := dec_t h0
      have t2 : decide (0 ≤ h) = false := dec_f (by omega)
      clear hno
      go_enter Try.func64, Try.ntmps64
      go_upto_region 1 with (fail)
      refine wp_box ?_
      intro W hB b0 hW
      have R0 : RowAt W w.heap.size (rcells c.time (fun i => c.cmp i % 4294967296) (fun i => c.cmp i / 4294967296) c.soft c.n) 57 := b0
      have e25 : W.cell? ⟨w.heap.size, 25, none⟩ = some (.int .i64 c.n) := RowAt.cell R0 rfl
      have e0 : W.cell? ⟨w.heap.size, 0, none⟩ = some (.int .u64 c.time) := RowAt.cell R0 rfl
      have kk := Ext.cells R0
      have s0 : ∀ x : Ext W.heap.size W, x.world.cell? ⟨w.heap.size, 0, none⟩ = some (.int .u64 c.time) := fun x => x.cell e0
      have s1 : ∀ x : Ext W.heap.size W, x.world.cell? ⟨w.heap.size, 25, none⟩ = some (.int .i64 c.n) := fun x => x.cell e25
      have hg : ∀ w', (∃ y : Ext W.heap.size W, w' = y.world) → ∀ j v, c.ref.toList[j]? = some v → w'.cell? ⟨w.heap.size, 0 + j, none⟩ = some v := by
        rintro _ ⟨y, rfl⟩ j v hv
        rw [Nat.zero_add, kk.1 y j]
        have hv2 : c.ref[j]? = some v := by simpa using hv
        exact hv2
      have HG := Lib.hid hg
      have hi : (Try.prog.info? 57).map (·.size) = some c.ref.toList.length := by kernel_rfl
      clear kk hg e0 e25 R0 b0
      refine wp_start (w := W) ?_
      intro x
      refine wp_region_ext _ (by kernel_rfl) (by kernel_rfl) ?_
      repeat (go_big_quiet_step (fail))
      refine wpQuiet_nil ?_
      rintro _ ⟨y, rfl⟩
      go_wp2_with fail
      go_ret
      exact ⟨by simp [lineB, HBB.out], below_then hB y.ok⟩
    · have t0 : decide (h < 0) = false := dec_f h0
      have t1 : decide ((c.n : Int) ≤ h) = true := dec_t (by omega)
      have t2 : decide (0 ≤ h) = true := dec_t (by omega)
      have t3 : decide (h < (c.n : Int)) = false := dec_f (by omega)
      clear hno
      go_enter Try.func64, Try.ntmps64
      go_upto_region 1 with (fail)
      refine wp_box ?_
      intro W hB b0 hW
      have R0 : RowAt W w.heap.size (rcells c.time (fun i => c.cmp i % 4294967296) (fun i => c.cmp i / 4294967296) c.soft c.n) 57 := b0
      have e25 : W.cell? ⟨w.heap.size, 25, none⟩ = some (.int .i64 c.n) := RowAt.cell R0 rfl
      have e0 : W.cell? ⟨w.heap.size, 0, none⟩ = some (.int .u64 c.time) := RowAt.cell R0 rfl
      have kk := Ext.cells R0
      have s0 : ∀ x : Ext W.heap.size W, x.world.cell? ⟨w.heap.size, 0, none⟩ = some (.int .u64 c.time) := fun x => x.cell e0
      have s1 : ∀ x : Ext W.heap.size W, x.world.cell? ⟨w.heap.size, 25, none⟩ = some (.int .i64 c.n) := fun x => x.cell e25
      have hg : ∀ w', (∃ y : Ext W.heap.size W, w' = y.world) → ∀ j v, c.ref.toList[j]? = some v → w'.cell? ⟨w.heap.size, 0 + j, none⟩ = some v := by
        rintro _ ⟨y, rfl⟩ j v hv
        rw [Nat.zero_add, kk.1 y j]
        have hv2 : c.ref[j]? = some v := by simpa using hv
        exact hv2
      have HG := Lib.hid hg
      have hi : (Try.prog.info? 57).map (·.size) = some c.ref.toList.length := by kernel_rfl
      clear kk hg e0 e25 R0 b0
      refine wp_start (w := W) ?_
      intro x
      refine wp_region_ext _ (by kernel_rfl) (by kernel_rfl) ?_
      repeat (go_big_quiet_step (fail))
      refine wpQuiet_nil ?_
      rintro _ ⟨y, rfl⟩
      go_wp2_with fail
      go_ret
      exact ⟨by simp [lineB, HBB.out], below_then hB y.ok⟩
theorem below_setRow {B : Nat} {w W : World} (h : Below B w W) {g : Nat} (hg : B ≤ g) (cs : Array Value) : Below B w (W.setRow g cs) :=
  ⟨h.os, h.tape, h.output, Nat.le_trans h.size (by simp), fun k hk => by
    simp only [World.setRow, Array.getElem?_modify]
    rw [if_neg (by omega)]
    exact h.block k hk⟩
theorem ref_tick (c : Cl) (v : Int) : c.ref.setIfInBounds 0 (.int .u64 v) = ({ c with time := v } : Cl).ref := rfl
def rzero : Array Value := rcells 0 (fun _ => 0) (fun _ => 0) (fun _ => 0) 0
set_option maxHeartbeats 8000000 in
set_option maxRecDepth 100000 in
theorem rtick_any (c : Cl) (ok : c.ok) (n : Int) (w : World) (n0 : 0 ≤ n) (n1 : n ≤ 18446744073709551615) :
    Calls Try.prog 35 #[.agg c.ref, .int .u64 n] w fun e w' => e = .returned (.agg ({ c with time := addI c.time n } : Cl).ref) ∧ Below w.heap.size w w' := by
  go_enter Try.func35, Try.ntmps35
  go_upto_region 1 with (fail)
  refine wp_box2 ?_
  intro W hB b0 b1 hW
  have R0 : RowAt W w.heap.size c.ref 57 := b0
  have R1 : RowAt W (w.heap.size + 1) rzero 57 := b1
  have e0 : W.cell? ⟨w.heap.size, 0, none⟩ = some (.int .u64 c.time) := RowAt.cell R0 rfl
  have HR0 := Lib.hid R0
  have HR1 := Lib.hid R1
  have HB := Lib.hid hB
  clear b0 b1 R0 R1 hB
  go_upto_region 2 with (go_at_call 59; refine (radd_any _ _ _ ok.t0 ok.t1 n0 n1).mono ?_; rintro e w1 ⟨rfl, hb1⟩; have q0 := RowAt.ext HR0.out hb1; have e1 : w1.cell? ⟨w.heap.size, 0, none⟩ = some (.int .u64 c.time) := RowAt.cell q0 rfl; have fz := RowAt.frozen q0)
  refine wp_name (Pr := fun W' => RowAt W' w.heap.size ({ c with time := addI c.time n } : Cl).ref 57 ∧ RowAt W' (w.heap.size + 1) rzero 57 ∧ Below w.heap.size w W') ⟨RowAt.set q0 0 _, RowAt.other (RowAt.ext HR1.out hb1) (by simp) _, below_set (below_then HB.out hb1) (by simp) _⟩ ?_
  clear q0 e1 fz hb1 HB HR0 HR1 e0
  rintro W5 ⟨r0, r1, hB⟩
  have HR0 := Lib.hid r0
  have HR1 := Lib.hid r1
  have HB := Lib.hid hB
  clear r0 r1 hB
  go_wp2_with (first | (refine wpList_load_row rfl 57 (.tmp 2) rfl w.heap.size rfl 57 ({ c with time := addI c.time n } : Cl).ref (0, 0) _ HR0.out Try.underlying57 rfl (by kernel_rfl) ?_) | (refine wpList_store_row rfl 57 (.tmp 4) (.tmp 10) rfl (w.heap.size + 1) ({ c with time := addI c.time n } : Cl).ref rfl rfl 57 _ HR1.out (by kernel_rfl) rfl (ref_one _) ?_))
  refine bodyPost_ret (v := .agg ({ c with time := addI c.time n } : Cl).ref) (results_cell_row rfl _ _ (w.heap.size + 1) 57 ({ c with time := addI c.time n } : Cl).ref (0, 0) _ rfl (RowAt.setRow HR1.out _) Try.underlying57 rfl (by kernel_rfl)) rfl ⟨rfl, below_setRow HB.out (by omega) _⟩
set_option maxHeartbeats 8000000 in
set_option maxRecDepth 100000 in
theorem rreset_any (t : Int) (lo hi so : Nat → Int) (n : Nat) (w : World) :
    Calls Try.prog 40 #[.agg (rcells t lo hi so n)] w fun e w' => e = .returned (.agg (rcells t (fun _ => 4294967295) (fun _ => 4294967295) (fun _ => 0) n)) ∧ Below w.heap.size w w' := by
  go_enter Try.func40, Try.ntmps40
  go_upto_region 1 with (fail)
  refine wp_box2 ?_
  intro W hB b0 b1 hW
  have R0 : RowAt W w.heap.size (rcells t lo hi so n) 57 := b0
  have R1 : RowAt W (w.heap.size + 1) rzero 57 := b1
  have HR0 := Lib.hid R0
  have HR1 := Lib.hid R1
  have HB := Lib.hid hB
  clear b0 b1 R0 R1 hB
  go_wp2_with fail
  go_loopw [3] (fun i wr => ∃ k : Nat, k ≤ 8 ∧ i = .int .i64 k ∧ RowAt wr w.heap.size (rcells t (newF lo 4294967295 k) (newF hi 4294967295 k) (newF so 0 k) n) 57 ∧ RowAt wr (w.heap.size + 1) rzero 57 ∧ Below w.heap.size w wr) (fun i _ => 8 - (intOf i).toNat)
  case atStart => exact ⟨0, by omega, rfl, HR0.out, HR1.out, HB.out⟩
  case round =>
    clear HR0 HR1 HB
    obtain ⟨k, hk, rfl, r0, r1, hB⟩ := hrel
    by_cases hlt : k < 8
    · have k0 : (0 : Int) ≤ (k : Int) := by omega
      have k8 : (k : Int) < 8 := by omega
      have q0 := r0.cell (rc_lo _ _ _ _ _ hlt)
      have q1 := r0.cell (rc_hi _ _ _ _ _ hlt)
      have q2 := r0.cell (rc_so _ _ _ _ _ hlt)
      have fz := RowAt.frozen r0
      have d1 : 1 + k ≠ 9 + k := by omega
      have d2 : 1 + k ≠ 17 + k := by omega
      have d3 : 9 + k ≠ 17 + k := by omega
      have HR0 := Lib.hid r0
      have HR1 := Lib.hid r1
      have HB := Lib.hid hB
      clear r0 r1 hB
      go_wp2_with fail
      go_roundw
      case measure => simp [intOf]; omega
      case rel =>
        have q := ((RowAt.set HR0.out (1 + k) (.int .u32 4294967295)).set (9 + k) (.int .u32 4294967295)).set (17 + k) (.int .u32 0)
        rw [rs_lo _ _ _ _ _ hlt, rs_hi _ _ _ _ _ hlt, rs_so _ _ _ _ _ hlt] at q
        simp only [newF_step] at q
        exact ⟨k + 1, by omega, by simp, q, ((HR1.out.other (by simp) _).other (by simp) _).other (by simp) _, below_set (below_set (below_set HB.out (by simp) _) (by simp) _) (by simp) _⟩
    · obtain rfl : k = 8 := by omega
      have r0' : RowAt wr w.heap.size (rcells t (fun _ => 4294967295) (fun _ => 4294967295) (fun _ => 0) n) 57 := r0
      have HR0 := Lib.hid r0'
      have HR1 := Lib.hid r1
      have HB := Lib.hid hB
      clear r0 r1 hB r0'
      go_wp2_with (first | (refine wpList_load_row rfl 57 (.tmp 1) rfl w.heap.size rfl 57 (rcells t (fun _ => 4294967295) (fun _ => 4294967295) (fun _ => 0) n) (0, 0) _ HR0.out Try.underlying57 rfl (by kernel_rfl) ?_) | (refine wpList_store_row rfl 57 (.tmp 2) (.tmp 17) rfl (w.heap.size + 1) (rcells t (fun _ => 4294967295) (fun _ => 4294967295) (fun _ => 0) n) rfl rfl 57 _ HR1.out (by kernel_rfl) rfl (rcells_one _ _ _ _ _) ?_))
      refine bodyPost_ret (v := .agg (rcells t (fun _ => 4294967295) (fun _ => 4294967295) (fun _ => 0) n)) (results_cell_row rfl _ _ (w.heap.size + 1) 57 (rcells t (fun _ => 4294967295) (fun _ => 4294967295) (fun _ => 0) n) (0, 0) _ rfl (RowAt.setRow HR1.out _) Try.underlying57 rfl (by kernel_rfl)) rfl ⟨rfl, below_setRow HB.out (by omega) _⟩
set_option maxHeartbeats 8000000 in
set_option maxRecDepth 100000 in
theorem rnew_any (n : Nat) (w : World) :
    Calls Try.prog 34 #[.int .i64 (n : Int)] w fun e w' => e = .returned (.agg (clNew n).ref) ∧ Below w.heap.size w w' := by
  have R1 : RowAt (w.alloc (.cells rzero 57)) w.heap.size rzero 57 := RowAt.new _ _ _
  have HR1 := Lib.hid R1
  clear R1
  go_enter Try.func34, Try.ntmps34
  go_upto_region 1 with (fail)
  go_wp2_with (first | (go_at_call 40; refine (rreset_any 0 (fun _ => 0) (fun _ => 0) (fun _ => 0) n _).mono ?_; rintro e w1 ⟨rfl, hb1⟩; have r1 := RowAt.ext HR1.out hb1; have HR2 := Lib.hid r1; clear r1) | (refine wpList_store_row rfl 57 (.tmp 2) (.tmp 5) rfl w.heap.size (rcells 0 (fun _ => 4294967295) (fun _ => 4294967295) (fun _ => 0) n) rfl rfl 57 _ HR2.out (by kernel_rfl) rfl (rcells_one _ _ _ _ _) ?_))
  refine bodyPost_ret (v := .agg (rcells 0 (fun _ => 4294967295) (fun _ => 4294967295) (fun _ => 0) n)) (results_cell_row rfl _ _ w.heap.size 57 (rcells 0 (fun _ => 4294967295) (fun _ => 4294967295) (fun _ => 0) n) (0, 0) _ rfl (RowAt.setRow HR2.out _) Try.underlying57 rfl (by kernel_rfl)) rfl ⟨rfl, below_setRow (below_then (below_new (Below.refl _ _) _) hb1) (Nat.le_refl _) _⟩
end Go.Proofs.Ytaihebdjhbnhoaa
