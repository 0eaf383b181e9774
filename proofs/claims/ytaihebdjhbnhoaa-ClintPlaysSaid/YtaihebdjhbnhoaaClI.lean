/- The document's clint. -/
import Derived.Test.YtaihebdjhbnhoaaClG
namespace Go.Proofs.Ytaihebdjhbnhoaa
open Go.RowKit
set_option linter.unusedVariables false
set_option linter.unusedSimpArgs false

def rcells (t : Int) (lo hi so : Nat → Int) (n : Nat) : Array Value := #[.int .u64 t, .int .u32 (lo 0), .int .u32 (lo 1), .int .u32 (lo 2), .int .u32 (lo 3), .int .u32 (lo 4), .int .u32 (lo 5), .int .u32 (lo 6), .int .u32 (lo 7), .int .u32 (hi 0), .int .u32 (hi 1), .int .u32 (hi 2), .int .u32 (hi 3), .int .u32 (hi 4), .int .u32 (hi 5), .int .u32 (hi 6), .int .u32 (hi 7), .int .u32 (so 0), .int .u32 (so 1), .int .u32 (so 2), .int .u32 (so 3), .int .u32 (so 4), .int .u32 (so 5), .int .u32 (so 6), .int .u32 (so 7), .int .i64 n]
def Cl.ref (c : Cl) : Array Value := rcells c.time (fun i => c.cmp i % 4294967296) (fun i => c.cmp i / 4294967296) c.soft c.n
theorem rcells_one (t : Int) (lo hi so : Nat → Int) (n : Nat) : (rcells t lo hi so n).all (·.oneCell') = true := by simp [rcells, Value.oneCell']
theorem rcells_size (t : Int) (lo hi so : Nat → Int) (n : Nat) : (Try.prog.info? 57).map (·.size) = some (rcells t lo hi so n).size := by kernel_rfl
section
variable (t : Int) (lo hi so : Nat → Int) (n : Nat) {k : Nat} (h : k < 8) (v : Int)
include h
theorem rc_lo : (rcells t lo hi so n)[1 + k]? = some (.int .u32 (lo k)) := by rcases lt8 h with rfl | rfl | rfl | rfl | rfl | rfl | rfl | rfl <;> rfl
theorem rc_hi : (rcells t lo hi so n)[9 + k]? = some (.int .u32 (hi k)) := by rcases lt8 h with rfl | rfl | rfl | rfl | rfl | rfl | rfl | rfl <;> rfl
theorem rc_so : (rcells t lo hi so n)[17 + k]? = some (.int .u32 (so k)) := by rcases lt8 h with rfl | rfl | rfl | rfl | rfl | rfl | rfl | rfl <;> rfl
theorem rs_lo : (rcells t lo hi so n).setIfInBounds (1 + k) (.int .u32 v) = rcells t (upd lo k v) hi so n := by rcases lt8 h with rfl | rfl | rfl | rfl | rfl | rfl | rfl | rfl <;> rfl
theorem rs_hi : (rcells t lo hi so n).setIfInBounds (9 + k) (.int .u32 v) = rcells t lo (upd hi k v) so n := by rcases lt8 h with rfl | rfl | rfl | rfl | rfl | rfl | rfl | rfl <;> rfl
theorem rs_so : (rcells t lo hi so n).setIfInBounds (17 + k) (.int .u32 v) = rcells t lo hi (upd so k v) n := by rcases lt8 h with rfl | rfl | rfl | rfl | rfl | rfl | rfl | rfl <;> rfl
end
theorem rc_t (t : Int) (lo hi so : Nat → Int) (n : Nat) : (rcells t lo hi so n)[0]? = some (.int .u64 t) := rfl
theorem rc_n (t : Int) (lo hi so : Nat → Int) (n : Nat) : (rcells t lo hi so n)[25]? = some (.int .i64 n) := rfl
theorem rs_t (t : Int) (lo hi so : Nat → Int) (n : Nat) (v : Int) : (rcells t lo hi so n).setIfInBounds 0 (.int .u64 v) = rcells v lo hi so n := rfl
set_option maxHeartbeats 8000000 in
set_option maxRecDepth 100000 in
theorem rcompare_any (c : Cl) (ok : c.ok) (h : Int) (w : World) :
    Calls Try.prog 63 #[.agg c.ref, .int .i64 h] w fun e w' => e = .returned (.int .u64 (cmpI c h)) ∧ Below w.heap.size w w' := by
  cases hb : hasB c h with
  | true =>
    obtain ⟨k, rfl, hk⟩ := hasB_nat hb
    have hn := ok.n1
    have k8 : (k : Int) < 8 := by omega
    have k0 : (0 : Int) ≤ (k : Int) := by omega
    have hk8 : k < 8 := by omega
    have t0 : decide ((k : Int) < 0) = false := dec_f (by omega)
    have t1 : decide ((c.n : Int) ≤ (k : Int)) = false := dec_f (by omega)
    have t1' : decide (c.n ≤ k) = false := dec_f (by omega)
    have t2 : decide (0 ≤ (k : Int)) = true := dec_t (by omega)
    have t3 : decide ((k : Int) < (c.n : Int)) = true := dec_t (by omega)
    have t3' : decide (k < c.n) = true := dec_t hk
    have HBB := Lib.hid hb
    clear hb
    go_enter Try.func63, Try.ntmps63
    go_upto_region 1 with (fail)
    refine wp_box ?_
    intro W hB b0 hW
    have R0 : RowAt W w.heap.size (rcells c.time (fun i => c.cmp i % 4294967296) (fun i => c.cmp i / 4294967296) c.soft c.n) 57 := b0
    have e25 : W.cell? ⟨w.heap.size, 25, none⟩ = some (.int .i64 c.n) := RowAt.cell R0 rfl
    obtain ⟨hk0, _⟩ := Ext.cells R0
    have s0 : ∀ x : Ext W.heap.size W, x.world.cell? ⟨w.heap.size, 1 + k, none⟩ = some (.int .u32 (c.cmp k % 4294967296)) := fun x => (hk0 x _).trans (rc_lo _ _ _ _ _ hk8)
    have s1 : ∀ x : Ext W.heap.size W, x.world.cell? ⟨w.heap.size, 9 + k, none⟩ = some (.int .u32 (c.cmp k / 4294967296)) := fun x => (hk0 x _).trans (rc_hi _ _ _ _ _ hk8)
    have cb0 := ok.c0 k
    have cb1 := ok.c1 k
    clear hk0
    refine wp_start (w := W) ?_
    intro x
    have e25 := x.cell e25
    go_wp2_with fail
    refine wp_region_ext _ (by kernel_rfl) (by kernel_rfl) ?_
    repeat (go_big_quiet_step ((go_at_call 69; exact Ext.call (rjoin_any _ _ _ (by omega) (by omega) (by omega) (by omega)))))
    refine wpQuiet_nil ?_
    rintro _ ⟨y, rfl⟩
    go_wp2_with fail
    go_ret
    refine ⟨ret_int ?_, below_then hB y.ok⟩
    simp only [cmpI, HBB.out, if_true, Int.toNat_natCast]
    omega
  | false =>
    have hno : h < 0 ∨ (c.n : Int) ≤ h := by
      unfold hasB at hb
      simp at hb
      omega
    have HBB := Lib.hid hb
    clear hb
    by_cases h0 : h < 0
    · have t0 : decide (h < 0) = true := dec_t h0
      have t2 : decide (0 ≤ h) = false := dec_f (by omega)
      clear hno
      go_enter Try.func63, Try.ntmps63
      go_upto_region 1 with (fail)
      refine wp_box ?_
      intro W hB b0 hW
      have R0 : RowAt W w.heap.size (rcells c.time (fun i => c.cmp i % 4294967296) (fun i => c.cmp i / 4294967296) c.soft c.n) 57 := b0
      have e25 : W.cell? ⟨w.heap.size, 25, none⟩ = some (.int .i64 c.n) := RowAt.cell R0 rfl
      go_wp2_with fail
      go_ret
      exact ⟨by simp [cmpI, HBB.out], hB⟩
    · have t0 : decide (h < 0) = false := dec_f h0
      have t1 : decide ((c.n : Int) ≤ h) = true := dec_t (by omega)
      have t2 : decide (0 ≤ h) = true := dec_t (by omega)
      have t3 : decide (h < (c.n : Int)) = false := dec_f (by omega)
      clear hno
      go_enter Try.func63, Try.ntmps63
      go_upto_region 1 with (fail)
      refine wp_box ?_
      intro W hB b0 hW
      have R0 : RowAt W w.heap.size (rcells c.time (fun i => c.cmp i % 4294967296) (fun i => c.cmp i / 4294967296) c.soft c.n) 57 := b0
      have e25 : W.cell? ⟨w.heap.size, 25, none⟩ = some (.int .i64 c.n) := RowAt.cell R0 rfl
      go_wp2_with fail
      go_ret
      exact ⟨by simp [cmpI, HBB.out], hB⟩
end Go.Proofs.Ytaihebdjhbnhoaa
