/- The document's clint: Store. -/
import Derived.Test.YtaihebdjhbnhoaaClK
import Derived.Laws.ResultCell
namespace Go.Proofs.Ytaihebdjhbnhoaa
open Go.RowKit
set_option linter.unusedVariables false
set_option linter.unusedSimpArgs false

theorem results_row_tmp {P : Program} {fn : Func} {p u : Tmp} {ty : TypeId} (h : fn.results = #[.cell p ty, .tmp u]) (tmps : Array Value) (w : World) (g : Nat) (t : TypeId) (cs : Array Value) (fr : Nat × Nat) (d : TypeDesc)
    (hp : tmps.getD p undef = .pointer (some ⟨g, 0, none⟩)) (hg : w.heap[g]? = some (.cells cs t fr))
    (hu : P.underlying ty = some d) (hd : (match d with | .struct _ | .array _ _ => true | _ => false) = true) (hi : (P.info? ty).map (·.size) = some cs.size) (e : Value) (he : tmps.getD u undef = e) :
    (results fn tmps).run P w = .ok (.tuple #[.agg cs, e]) w := by
  rw [results_cell_tmp h, hp, he]
  simp [asAddr, run_loadVar_row w g t ty cs fr d hg hu hd hi]
theorem pl_out {N : Nat} {off : Int} {p : Int × Int} (h : pl N off = some p) : ∃ k : Nat, p.2 = (k : Int) ∧ (p.1 = 1 ∧ k < N ∧ off = 4 * (k : Int) ∨ p.1 = 2 ∧ k < N ∧ off = 16384 + 8 * (k : Int) ∨ p.1 = 3 ∧ k < N ∧ off = 16388 + 8 * (k : Int) ∨ p.1 = 4 ∧ off = 49144 ∨ p.1 = 5 ∧ off = 49148) := by
  induction N with
  | zero =>
    simp only [pl] at h
    split at h
    · obtain rfl := Option.some.inj h; exact ⟨0, rfl, by simp_all⟩
    · split at h
      · obtain rfl := Option.some.inj h; exact ⟨0, rfl, by simp_all⟩
      · cases h
  | succ k ih =>
    simp only [pl] at h
    split at h
    · obtain rfl := Option.some.inj h; exact ⟨k, rfl, by simp_all⟩
    · split at h
      · obtain rfl := Option.some.inj h; exact ⟨k, rfl, by simp_all⟩
      · split at h
        · obtain rfl := Option.some.inj h; exact ⟨k, rfl, by simp_all⟩
        · obtain ⟨j, e, q⟩ := ih h
          exact ⟨j, e, by omega⟩
theorem rload_is (c : Cl) (ok : c.ok) (off : Int) (w : World) (o0 : 0 ≤ off) (o1 : off ≤ 4294967295) {x e0 : Int} (h : loadI c off = (x, e0)) :
    Calls Try.prog 36 #[.agg c.ref, .int .u32 off] w fun e w' => e = .returned (.tuple #[.int .u32 x, .int .i64 e0]) ∧ Below w.heap.size w w' := by
  have q := rload_any c ok off w o0 o1
  rw [h] at q
  exact q
set_option maxHeartbeats 8000000 in
set_option maxRecDepth 100000 in
theorem rstore_err (c : Cl) (ok : c.ok) (off v : Int) (w : World) (o0 : 0 ≤ off) (o1 : off ≤ 4294967295) (v0 : 0 ≤ v) (v1 : v ≤ 4294967295) (x : Int) (er : Int) (h : loadI c off = (x, er)) (hne : er ≠ 0) :
    Calls Try.prog 38 #[.agg c.ref, .int .u32 off, .int .u32 v] w fun e w' => e = .returned (.tuple #[.agg c.ref, .int .i64 er]) ∧ Below w.heap.size w w' := by
  have HE := Lib.hid h
  have g0 : (er != 0) = true := bne_t hne
  clear h hne
  go_enter Try.func38, Try.ntmps38
  go_upto_region 1 with (fail)
  refine wp_box2 ?_
  intro W hB b0 b1 hW
  have R0 : RowAt W w.heap.size (rcells c.time (fun i => c.cmp i % 4294967296) (fun i => c.cmp i / 4294967296) c.soft c.n) 57 := b0
  have R1 : RowAt W (w.heap.size + 1) rzero 57 := b1
  have HR0 := Lib.hid R0
  have HR1 := Lib.hid R1
  have HB := Lib.hid hB
  clear b0 b1 R0 R1 hB
  go_upto_region 2 with (first | (refine wpList_load_row rfl 57 (.tmp 3) rfl w.heap.size rfl 57 c.ref (0, 0) _ HR0.out Try.underlying57 rfl (by kernel_rfl) ?_) | (go_at_call 36; refine (rload_is c ok off _ o0 o1 HE.out).mono ?_; rintro e w1 ⟨rfl, hb1⟩; have q0 := RowAt.ext HR0.out hb1; have q1 := RowAt.ext HR1.out hb1; have qb := below_then HB.out hb1))
  refine wp_name (Pr := fun W' => RowAt W' w.heap.size (rcells c.time (fun i => c.cmp i % 4294967296) (fun i => c.cmp i / 4294967296) c.soft c.n) 57 ∧ RowAt W' (w.heap.size + 1) rzero 57 ∧ Below w.heap.size w W') ⟨q0, q1, qb⟩ ?_
  clear q0 q1 qb hb1 HB HR0 HR1
  rintro W5 ⟨r0, r1, hB⟩
  have HR0 := Lib.hid r0
  have HR1 := Lib.hid r1
  have HB := Lib.hid hB
  clear r0 r1 hB
  go_wp2_with (first | (refine wpList_load_row rfl 57 (.tmp 3) rfl w.heap.size rfl 57 (rcells c.time (fun i => c.cmp i % 4294967296) (fun i => c.cmp i / 4294967296) c.soft c.n) (0, 0) _ HR0.out Try.underlying57 rfl (by kernel_rfl) ?_) | (refine wpList_store_row rfl 57 (.tmp 6) (.tmp 19) rfl (w.heap.size + 1) (rcells c.time (fun i => c.cmp i % 4294967296) (fun i => c.cmp i / 4294967296) c.soft c.n) rfl rfl 57 _ HR1.out (by kernel_rfl) rfl (rcells_one _ _ _ _ _) ?_))
  refine bodyPost_ret (v := .tuple #[.agg (rcells c.time (fun i => c.cmp i % 4294967296) (fun i => c.cmp i / 4294967296) c.soft c.n), .int .i64 er]) (results_row_tmp (P := Try.prog) rfl _ _ (w.heap.size + 1) 57 (rcells c.time (fun i => c.cmp i % 4294967296) (fun i => c.cmp i / 4294967296) c.soft c.n) (0, 0) _ rfl (RowAt.setRow HR1.out _) Try.underlying57 rfl (by kernel_rfl) (.int .i64 er) rfl) rfl ⟨rfl, below_setRow HB.out (by omega) _⟩
set_option maxHeartbeats 8000000 in
set_option maxRecDepth 100000 in
theorem rstore_time (c : Cl) (ok : c.ok) (off v : Int) (w : World) (o0 : 0 ≤ off) (o1 : off ≤ 4294967295) (v0 : 0 ≤ v) (v1 : v ≤ 4294967295) (x : Int) (h : loadI c off = (x, 0)) (hge : 49144 ≤ off) :
    Calls Try.prog 38 #[.agg c.ref, .int .u32 off, .int .u32 v] w fun e w' => e = .returned (.tuple #[.agg c.ref, .int .i64 12]) ∧ Below w.heap.size w w' := by
  have HE := Lib.hid h
  have g1 : decide (49144 ≤ off) = true := dec_t hge
  clear h hge
  go_enter Try.func38, Try.ntmps38
  go_upto_region 1 with (fail)
  refine wp_box2 ?_
  intro W hB b0 b1 hW
  have R0 : RowAt W w.heap.size (rcells c.time (fun i => c.cmp i % 4294967296) (fun i => c.cmp i / 4294967296) c.soft c.n) 57 := b0
  have R1 : RowAt W (w.heap.size + 1) rzero 57 := b1
  have HR0 := Lib.hid R0
  have HR1 := Lib.hid R1
  have HB := Lib.hid hB
  clear b0 b1 R0 R1 hB
  go_upto_region 2 with (first | (refine wpList_load_row rfl 57 (.tmp 3) rfl w.heap.size rfl 57 c.ref (0, 0) _ HR0.out Try.underlying57 rfl (by kernel_rfl) ?_) | (go_at_call 36; refine (rload_is c ok off _ o0 o1 HE.out).mono ?_; rintro e w1 ⟨rfl, hb1⟩; have q0 := RowAt.ext HR0.out hb1; have q1 := RowAt.ext HR1.out hb1; have qb := below_then HB.out hb1))
  refine wp_name (Pr := fun W' => RowAt W' w.heap.size (rcells c.time (fun i => c.cmp i % 4294967296) (fun i => c.cmp i / 4294967296) c.soft c.n) 57 ∧ RowAt W' (w.heap.size + 1) rzero 57 ∧ Below w.heap.size w W') ⟨q0, q1, qb⟩ ?_
  clear q0 q1 qb hb1 HB HR0 HR1
  rintro W5 ⟨r0, r1, hB⟩
  have HR0 := Lib.hid r0
  have HR1 := Lib.hid r1
  have HB := Lib.hid hB
  clear r0 r1 hB
  go_wp2_with (first | (refine wpList_load_row rfl 57 (.tmp 3) rfl w.heap.size rfl 57 (rcells c.time (fun i => c.cmp i % 4294967296) (fun i => c.cmp i / 4294967296) c.soft c.n) (0, 0) _ HR0.out Try.underlying57 rfl (by kernel_rfl) ?_) | (refine wpList_store_row rfl 57 (.tmp 6) (.tmp 23) rfl (w.heap.size + 1) (rcells c.time (fun i => c.cmp i % 4294967296) (fun i => c.cmp i / 4294967296) c.soft c.n) rfl rfl 57 _ HR1.out (by kernel_rfl) rfl (rcells_one _ _ _ _ _) ?_))
  refine bodyPost_ret (v := .tuple #[.agg (rcells c.time (fun i => c.cmp i % 4294967296) (fun i => c.cmp i / 4294967296) c.soft c.n), .int .i64 12]) (results_row_tmp (P := Try.prog) rfl _ _ (w.heap.size + 1) 57 (rcells c.time (fun i => c.cmp i % 4294967296) (fun i => c.cmp i / 4294967296) c.soft c.n) (0, 0) _ rfl (RowAt.setRow HR1.out _) Try.underlying57 rfl (by kernel_rfl) (.int .i64 12) rfl) rfl ⟨rfl, below_setRow HB.out (by omega) _⟩
set_option maxHeartbeats 8000000 in
set_option maxRecDepth 100000 in
theorem rstore_soft (c : Cl) (ok : c.ok) (off v : Int) (w : World) (o0 : 0 ≤ off) (o1 : off ≤ 4294967295) (v0 : 0 ≤ v) (v1 : v ≤ 4294967295) (x : Int) (k : Nat) (hk : k < 8) (h : loadI c off = (x, 0)) (hoff : off = 4 * (k : Int)) :
    Calls Try.prog 38 #[.agg c.ref, .int .u32 off, .int .u32 v] w fun e w' => e = .returned (.tuple #[.agg (rcells c.time (fun i => c.cmp i % 4294967296) (fun i => c.cmp i / 4294967296) (upd c.soft k (v % 2)) c.n), .int .i64 0]) ∧ Below w.heap.size w w' := by
  have HE := Lib.hid h
  have g1 : decide (49144 ≤ off) = false := dec_f (by omega)
  have k0 : (0 : Int) ≤ (k : Int) := by omega
  have k8 : (k : Int) < 8 := by omega
  have g2 : decide (off < 16384) = true := dec_t (by omega)
  have hq : off / 4 = (k : Int) := by omega
  clear h hoff
  go_enter Try.func38, Try.ntmps38
  go_upto_region 1 with (fail)
  refine wp_box2 ?_
  intro W hB b0 b1 hW
  have R0 : RowAt W w.heap.size (rcells c.time (fun i => c.cmp i % 4294967296) (fun i => c.cmp i / 4294967296) c.soft c.n) 57 := b0
  have R1 : RowAt W (w.heap.size + 1) rzero 57 := b1
  have HR0 := Lib.hid R0
  have HR1 := Lib.hid R1
  have HB := Lib.hid hB
  clear b0 b1 R0 R1 hB
  go_upto_region 2 with (first | (refine wpList_load_row rfl 57 (.tmp 3) rfl w.heap.size rfl 57 c.ref (0, 0) _ HR0.out Try.underlying57 rfl (by kernel_rfl) ?_) | (go_at_call 36; refine (rload_is c ok off _ o0 o1 HE.out).mono ?_; rintro e w1 ⟨rfl, hb1⟩; have q0 := RowAt.ext HR0.out hb1; have q1 := RowAt.ext HR1.out hb1; have qb := below_then HB.out hb1))
  refine wp_name (Pr := fun W' => RowAt W' w.heap.size (rcells c.time (fun i => c.cmp i % 4294967296) (fun i => c.cmp i / 4294967296) c.soft c.n) 57 ∧ RowAt W' (w.heap.size + 1) rzero 57 ∧ Below w.heap.size w W') ⟨q0, q1, qb⟩ ?_
  clear q0 q1 qb hb1 HB HR0 HR1
  rintro W5 ⟨r0, r1, hB⟩
  have s0 := r0.cell (rc_so _ _ _ _ _ hk)
  have fz := RowAt.frozen r0
  have HR0 := Lib.hid r0
  have HR1 := Lib.hid r1
  have HB := Lib.hid hB
  clear r0 r1 hB
  go_upto_region 8 with (fail)
  refine wp_name (Pr := fun W' => RowAt W' w.heap.size (rcells c.time (fun i => c.cmp i % 4294967296) (fun i => c.cmp i / 4294967296) (upd c.soft k (v % 2)) c.n) 57 ∧ RowAt W' (w.heap.size + 1) rzero 57 ∧ Below w.heap.size w W') ⟨by rw [← rs_so _ _ _ _ _ hk]; exact RowAt.set HR0.out _ _, RowAt.other HR1.out (by simp) _, below_set HB.out (by simp) _⟩ ?_
  clear HR0 HR1 HB s0 fz
  rintro W6 ⟨r0, r1, hB⟩
  have HR0 := Lib.hid r0
  have HR1 := Lib.hid r1
  have HB := Lib.hid hB
  clear r0 r1 hB
  go_wp2_with (first | (refine wpList_load_row rfl 57 (.tmp 3) rfl w.heap.size rfl 57 (rcells c.time (fun i => c.cmp i % 4294967296) (fun i => c.cmp i / 4294967296) (upd c.soft k (v % 2)) c.n) (0, 0) _ HR0.out Try.underlying57 rfl (by kernel_rfl) ?_) | (refine wpList_store_row rfl 57 (.tmp 6) (.tmp 32) rfl (w.heap.size + 1) (rcells c.time (fun i => c.cmp i % 4294967296) (fun i => c.cmp i / 4294967296) (upd c.soft k (v % 2)) c.n) rfl rfl 57 _ HR1.out (by kernel_rfl) rfl (rcells_one _ _ _ _ _) ?_))
  refine bodyPost_ret (v := .tuple #[.agg (rcells c.time (fun i => c.cmp i % 4294967296) (fun i => c.cmp i / 4294967296) (upd c.soft k (v % 2)) c.n), .int .i64 0]) (results_row_tmp (P := Try.prog) rfl _ _ (w.heap.size + 1) 57 (rcells c.time (fun i => c.cmp i % 4294967296) (fun i => c.cmp i / 4294967296) (upd c.soft k (v % 2)) c.n) (0, 0) _ rfl (RowAt.setRow HR1.out _) Try.underlying57 rfl (by kernel_rfl) (.int .i64 0) rfl) rfl ⟨rfl, below_setRow HB.out (by omega) _⟩
set_option maxHeartbeats 8000000 in
set_option maxRecDepth 100000 in
theorem rstore_low (c : Cl) (ok : c.ok) (off v : Int) (w : World) (o0 : 0 ≤ off) (o1 : off ≤ 4294967295) (v0 : 0 ≤ v) (v1 : v ≤ 4294967295) (x : Int) (k : Nat) (hk : k < 8) (h : loadI c off = (x, 0)) (hoff : off = 16384 + 8 * (k : Int)) :
    Calls Try.prog 38 #[.agg c.ref, .int .u32 off, .int .u32 v] w fun e w' => e = .returned (.tuple #[.agg (rcells c.time (upd (fun i => c.cmp i % 4294967296) k v) (fun i => c.cmp i / 4294967296) (c.soft) c.n), .int .i64 0]) ∧ Below w.heap.size w w' := by
  have HE := Lib.hid h
  have g1 : decide (49144 ≤ off) = false := dec_f (by omega)
  have k0 : (0 : Int) ≤ (k : Int) := by omega
  have k8 : (k : Int) < 8 := by omega
  have g2 : decide (off < 16384) = false := dec_f (by omega)
  have o2 : 0 ≤ off - 16384 := by omega
  have hq : (off - 16384) / 8 = (k : Int) := by omega
  have g3 : (off % 8 == 0) = true := beq_t (by omega)
  clear h hoff
  go_enter Try.func38, Try.ntmps38
  go_upto_region 1 with (fail)
  refine wp_box2 ?_
  intro W hB b0 b1 hW
  have R0 : RowAt W w.heap.size (rcells c.time (fun i => c.cmp i % 4294967296) (fun i => c.cmp i / 4294967296) c.soft c.n) 57 := b0
  have R1 : RowAt W (w.heap.size + 1) rzero 57 := b1
  have HR0 := Lib.hid R0
  have HR1 := Lib.hid R1
  have HB := Lib.hid hB
  clear b0 b1 R0 R1 hB
  go_upto_region 2 with (first | (refine wpList_load_row rfl 57 (.tmp 3) rfl w.heap.size rfl 57 c.ref (0, 0) _ HR0.out Try.underlying57 rfl (by kernel_rfl) ?_) | (go_at_call 36; refine (rload_is c ok off _ o0 o1 HE.out).mono ?_; rintro e w1 ⟨rfl, hb1⟩; have q0 := RowAt.ext HR0.out hb1; have q1 := RowAt.ext HR1.out hb1; have qb := below_then HB.out hb1))
  refine wp_name (Pr := fun W' => RowAt W' w.heap.size (rcells c.time (fun i => c.cmp i % 4294967296) (fun i => c.cmp i / 4294967296) c.soft c.n) 57 ∧ RowAt W' (w.heap.size + 1) rzero 57 ∧ Below w.heap.size w W') ⟨q0, q1, qb⟩ ?_
  clear q0 q1 qb hb1 HB HR0 HR1
  rintro W5 ⟨r0, r1, hB⟩
  have s0 := r0.cell (rc_lo _ _ _ _ _ hk)
  have fz := RowAt.frozen r0
  have HR0 := Lib.hid r0
  have HR1 := Lib.hid r1
  have HB := Lib.hid hB
  clear r0 r1 hB
  go_upto_region 13 with (fail)
  refine wp_name (Pr := fun W' => RowAt W' w.heap.size (rcells c.time (upd (fun i => c.cmp i % 4294967296) k v) (fun i => c.cmp i / 4294967296) (c.soft) c.n) 57 ∧ RowAt W' (w.heap.size + 1) rzero 57 ∧ Below w.heap.size w W') ⟨by rw [← rs_lo _ _ _ _ _ hk]; exact RowAt.set HR0.out _ _, RowAt.other HR1.out (by simp) _, below_set HB.out (by simp) _⟩ ?_
  clear HR0 HR1 HB s0 fz
  rintro W6 ⟨r0, r1, hB⟩
  have HR0 := Lib.hid r0
  have HR1 := Lib.hid r1
  have HB := Lib.hid hB
  clear r0 r1 hB
  go_wp2_with (first | (refine wpList_load_row rfl 57 (.tmp 3) rfl w.heap.size rfl 57 (rcells c.time (upd (fun i => c.cmp i % 4294967296) k v) (fun i => c.cmp i / 4294967296) (c.soft) c.n) (0, 0) _ HR0.out Try.underlying57 rfl (by kernel_rfl) ?_) | (refine wpList_store_row rfl 57 (.tmp 6) (.tmp 47) rfl (w.heap.size + 1) (rcells c.time (upd (fun i => c.cmp i % 4294967296) k v) (fun i => c.cmp i / 4294967296) (c.soft) c.n) rfl rfl 57 _ HR1.out (by kernel_rfl) rfl (rcells_one _ _ _ _ _) ?_))
  refine bodyPost_ret (v := .tuple #[.agg (rcells c.time (upd (fun i => c.cmp i % 4294967296) k v) (fun i => c.cmp i / 4294967296) (c.soft) c.n), .int .i64 0]) (results_row_tmp (P := Try.prog) rfl _ _ (w.heap.size + 1) 57 (rcells c.time (upd (fun i => c.cmp i % 4294967296) k v) (fun i => c.cmp i / 4294967296) (c.soft) c.n) (0, 0) _ rfl (RowAt.setRow HR1.out _) Try.underlying57 rfl (by kernel_rfl) (.int .i64 0) rfl) rfl ⟨rfl, below_setRow HB.out (by omega) _⟩
set_option maxHeartbeats 8000000 in
set_option maxRecDepth 100000 in
theorem rstore_high (c : Cl) (ok : c.ok) (off v : Int) (w : World) (o0 : 0 ≤ off) (o1 : off ≤ 4294967295) (v0 : 0 ≤ v) (v1 : v ≤ 4294967295) (x : Int) (k : Nat) (hk : k < 8) (h : loadI c off = (x, 0)) (hoff : off = 16388 + 8 * (k : Int)) :
    Calls Try.prog 38 #[.agg c.ref, .int .u32 off, .int .u32 v] w fun e w' => e = .returned (.tuple #[.agg (rcells c.time (fun i => c.cmp i % 4294967296) (upd (fun i => c.cmp i / 4294967296) k v) (c.soft) c.n), .int .i64 0]) ∧ Below w.heap.size w w' := by
  have HE := Lib.hid h
  have g1 : decide (49144 ≤ off) = false := dec_f (by omega)
  have k0 : (0 : Int) ≤ (k : Int) := by omega
  have k8 : (k : Int) < 8 := by omega
  have g2 : decide (off < 16384) = false := dec_f (by omega)
  have o2 : 0 ≤ off - 16384 := by omega
  have hq : (off - 16384) / 8 = (k : Int) := by omega
  have g3 : (off % 8 == 0) = false := beq_f (by omega)
  clear h hoff
  go_enter Try.func38, Try.ntmps38
  go_upto_region 1 with (fail)
  refine wp_box2 ?_
  intro W hB b0 b1 hW
  have R0 : RowAt W w.heap.size (rcells c.time (fun i => c.cmp i % 4294967296) (fun i => c.cmp i / 4294967296) c.soft c.n) 57 := b0
  have R1 : RowAt W (w.heap.size + 1) rzero 57 := b1
  have HR0 := Lib.hid R0
  have HR1 := Lib.hid R1
  have HB := Lib.hid hB
  clear b0 b1 R0 R1 hB
  go_upto_region 2 with (first | (refine wpList_load_row rfl 57 (.tmp 3) rfl w.heap.size rfl 57 c.ref (0, 0) _ HR0.out Try.underlying57 rfl (by kernel_rfl) ?_) | (go_at_call 36; refine (rload_is c ok off _ o0 o1 HE.out).mono ?_; rintro e w1 ⟨rfl, hb1⟩; have q0 := RowAt.ext HR0.out hb1; have q1 := RowAt.ext HR1.out hb1; have qb := below_then HB.out hb1))
  refine wp_name (Pr := fun W' => RowAt W' w.heap.size (rcells c.time (fun i => c.cmp i % 4294967296) (fun i => c.cmp i / 4294967296) c.soft c.n) 57 ∧ RowAt W' (w.heap.size + 1) rzero 57 ∧ Below w.heap.size w W') ⟨q0, q1, qb⟩ ?_
  clear q0 q1 qb hb1 HB HR0 HR1
  rintro W5 ⟨r0, r1, hB⟩
  have s0 := r0.cell (rc_hi _ _ _ _ _ hk)
  have fz := RowAt.frozen r0
  have HR0 := Lib.hid r0
  have HR1 := Lib.hid r1
  have HB := Lib.hid hB
  clear r0 r1 hB
  go_upto_region 13 with (fail)
  refine wp_name (Pr := fun W' => RowAt W' w.heap.size (rcells c.time (fun i => c.cmp i % 4294967296) (upd (fun i => c.cmp i / 4294967296) k v) (c.soft) c.n) 57 ∧ RowAt W' (w.heap.size + 1) rzero 57 ∧ Below w.heap.size w W') ⟨by rw [← rs_hi _ _ _ _ _ hk]; exact RowAt.set HR0.out _ _, RowAt.other HR1.out (by simp) _, below_set HB.out (by simp) _⟩ ?_
  clear HR0 HR1 HB s0 fz
  rintro W6 ⟨r0, r1, hB⟩
  have HR0 := Lib.hid r0
  have HR1 := Lib.hid r1
  have HB := Lib.hid hB
  clear r0 r1 hB
  go_wp2_with (first | (refine wpList_load_row rfl 57 (.tmp 3) rfl w.heap.size rfl 57 (rcells c.time (fun i => c.cmp i % 4294967296) (upd (fun i => c.cmp i / 4294967296) k v) (c.soft) c.n) (0, 0) _ HR0.out Try.underlying57 rfl (by kernel_rfl) ?_) | (refine wpList_store_row rfl 57 (.tmp 6) (.tmp 47) rfl (w.heap.size + 1) (rcells c.time (fun i => c.cmp i % 4294967296) (upd (fun i => c.cmp i / 4294967296) k v) (c.soft) c.n) rfl rfl 57 _ HR1.out (by kernel_rfl) rfl (rcells_one _ _ _ _ _) ?_))
  refine bodyPost_ret (v := .tuple #[.agg (rcells c.time (fun i => c.cmp i % 4294967296) (upd (fun i => c.cmp i / 4294967296) k v) (c.soft) c.n), .int .i64 0]) (results_row_tmp (P := Try.prog) rfl _ _ (w.heap.size + 1) 57 (rcells c.time (fun i => c.cmp i % 4294967296) (upd (fun i => c.cmp i / 4294967296) k v) (c.soft) c.n) (0, 0) _ rfl (RowAt.setRow HR1.out _) Try.underlying57 rfl (by kernel_rfl) (.int .i64 0) rfl) rfl ⟨rfl, below_setRow HB.out (by omega) _⟩
theorem rstore_any (c : Cl) (ok : c.ok) (off v : Int) (w : World) (o0 : 0 ≤ off) (o1 : off ≤ 4294967295) (v0 : 0 ≤ v) (v1 : v ≤ 4294967295) :
    Calls Try.prog 38 #[.agg c.ref, .int .u32 off, .int .u32 v] w fun e w' => e = .returned (.tuple #[.agg (storeI c off v).1.ref, .int .i64 (storeI c off v).2]) ∧ Below w.heap.size w w' := by
  unfold storeI
  by_cases h : off % 4 = 0
  · rw [if_neg (by omega)]
    cases hp : pl c.n off with
    | none =>
      have hl : loadI c off = (0, 10) := by unfold loadI; rw [if_neg (by omega), hp]
      exact rstore_err c ok off v w o0 o1 v0 v1 0 10 hl (by decide)
    | some p =>
      obtain ⟨k, hk, hpo⟩ := pl_out hp
      obtain ⟨p1, p2⟩ := p
      simp only at hk hpo
      subst hk
      have hn := ok.n1
      have hl : loadI c off = (wordI c (p1, (k : Int)), 0) := by unfold loadI; rw [if_neg (by omega), hp]
      rcases hpo with ⟨rfl, hk, e⟩ | ⟨rfl, hk, e⟩ | ⟨rfl, hk, e⟩ | ⟨rfl, e⟩ | ⟨rfl, e⟩
      · exact rstore_soft c ok off v w o0 o1 v0 v1 _ k (by omega) hl e
      · have q := rstore_low c ok off v w o0 o1 v0 v1 _ k (by omega) hl e
        have e1 : upd (fun i => c.cmp i % 4294967296) k v = fun i => upd c.cmp k (c.cmp k / 4294967296 * 4294967296 + v) i % 4294967296 := by
          funext i; unfold upd; split <;> first | rfl | omega
        have e2 : (fun i => c.cmp i / 4294967296) = fun i => upd c.cmp k (c.cmp k / 4294967296 * 4294967296 + v) i / 4294967296 := by
          funext i; unfold upd; split
          · rename_i h; subst h; omega
          · rfl
        rw [e1, e2] at q
        exact q
      · have q := rstore_high c ok off v w o0 o1 v0 v1 _ k (by omega) hl e
        have e1 : upd (fun i => c.cmp i / 4294967296) k v = fun i => upd c.cmp k (v * 4294967296 + c.cmp k % 4294967296) i / 4294967296 := by
          funext i; unfold upd; split <;> first | rfl | omega
        have e2 : (fun i => c.cmp i % 4294967296) = fun i => upd c.cmp k (v * 4294967296 + c.cmp k % 4294967296) i % 4294967296 := by
          funext i; unfold upd; split
          · rename_i h; subst h; omega
          · rfl
        rw [e1, e2] at q
        exact q
      · exact rstore_time c ok off v w o0 o1 v0 v1 _ hl (by omega)
      · exact rstore_time c ok off v w o0 o1 v0 v1 _ hl (by omega)
  · rw [if_pos h]
    have hl : loadI c off = (0, 11) := by unfold loadI; rw [if_pos h]
    exact rstore_err c ok off v w o0 o1 v0 v1 0 11 hl (by decide)
end Go.Proofs.Ytaihebdjhbnhoaa
