/- The document's lines: Bits, Word. -/
import Derived.Test.YtaihebdjhbnhoaaDoorLnD
namespace Go.Proofs.YtaihebdjhbnhoaaDoor
open Go.RowKit
set_option linter.unusedVariables false
set_option linter.unusedSimpArgs false

/-- 32 truths. -/
def t32 (f : Nat → Bool) : List Bool := (List.range 32).map f
theorem t32_len (f : Nat → Bool) : (t32 f).length = 32 := by simp [t32]
theorem t32_get (f : Nat → Bool) {i : Nat} (h : i < 32) : (t32 f)[i]? = some (f i) := range_get 32 f i h
theorem zeros32 : bools (t32 fun _ => false) = bools (List.replicate 32 false) := by rfl
theorem info32 : (Tryd.prog.info? 37).map (·.size) = some 32 := by kernel_rfl
theorem below_setRow {B : Nat} {w W : World} (h : Below B w W) {g : Nat} (hg : B ≤ g) (cs : Array Value) : Below B w (W.setRow g cs) :=
  ⟨h.os, h.tape, h.output, Nat.le_trans h.size (by simp), fun k hk => by
    simp only [World.setRow, Array.getElem?_modify]
    rw [if_neg (by omega)]
    exact h.block k hk⟩
set_option maxHeartbeats 8000000 in
set_option maxRecDepth 100000 in
theorem word_any (f : Nat → Bool) (w : World) :
    Calls Tryd.prog 28 #[.agg (bools (t32 f))] w fun e w' => e = .returned (.int .u32 (bs f 32)) ∧ Below w.heap.size w w' := by
  go_enter Tryd.func28, Tryd.ntmps28
  go_upto_region 1 with (fail)
  refine wp_box ?_
  intro W hB b0 hW
  have R0 : RowAt W w.heap.size (bools (t32 f)) 37 := b0
  have HR := Lib.hid R0
  have HB := Lib.hid hB
  clear b0 R0 hB
  go_wp2_with fail
  go_loopw [3, 4, 5] (fun o u i wr => ∃ j : Nat, j ≤ 32 ∧ o = .int .u32 (bs f j) ∧ u = .int .u32 (IntKind.u32.wrap (2 ^ j)) ∧ i = .int .i64 j ∧ wr = W) (fun _ _ i _ => 32 - (intOf i).toNat)
  case atStart => exact ⟨0, by omega, rfl, rfl, rfl, rfl⟩
  case round =>
    obtain ⟨j, hj, rfl, rfl, rfl, rfl⟩ := hrel
    obtain ⟨z0, z1⟩ := bs_range f j
    by_cases hlt : j < 32
    · obtain ⟨p0, p1⟩ := pow_small j hlt
      have eu := wrap_unit j hlt
      have c0 := HR.out.cell (bools_get (t32_get f hlt))
      have j0 : (0 : Int) ≤ (j : Int) := by omega
      have j32 : (j : Int) < 32 := by omega
      rcases Bool.eq_false_or_eq_true (f j) with hx | hx
      all_goals
        go_wp2_with fail
        go_roundw
        case measure => simp [intOf]; omega
        case rel => exact ⟨j + 1, by omega, by rw [bs, hx]; simp, by rw [← wrap_unit2, IntKind.wrap_u32], by go_num, by first | trivial | rfl⟩
    · obtain rfl : j = 32 := by omega
      go_wp2_with fail
      go_ret
      exact ⟨rfl, HB.out⟩
set_option maxHeartbeats 8000000 in
set_option maxRecDepth 100000 in
theorem rbits_any (v : Int) (w : World) (v0 : 0 ≤ v) (v1 : v ≤ 4294967295) :
    Calls Tryd.prog 14 #[.int .u32 v] w fun e w' => e = .returned (.agg (bools (t32 (bitI v)))) ∧ Below w.heap.size w w' := by
  go_enter Tryd.func14, Tryd.ntmps14
  go_upto_region 2 with (fail)
  refine wp_box2 ?_
  intro W hB b0 b1 hW
  have R0 : RowAt W w.heap.size (bools (t32 fun _ => false)) 37 := b0
  have R1 : RowAt W (w.heap.size + 1) (bools (t32 fun _ => false)) 37 := b1
  go_wp2_with fail
  go_loopw [4] (fun i wr => ∃ (k : Nat) (l : List Bool), k ≤ 32 ∧ i = .int .i64 k ∧ l.length = 32 ∧ (∀ q, q < k → l[q]? = some (bitI v q)) ∧ RowAt wr w.heap.size (bools (t32 fun _ => false)) 37 ∧ RowAt wr (w.heap.size + 1) (bools l) 37 ∧ Below w.heap.size w wr) (fun i _ => 32 - (intOf i).toNat)
  case atStart => exact ⟨0, _, by omega, rfl, t32_len _, fun q hq => absurd hq (by omega), R0, R1, hB⟩
  case round =>
    clear R0 R1 hB b0 b1
    obtain ⟨k, l, hk, rfl, hl, hd, Q0, Q1, hB⟩ := hrel
    have H0 := Lib.hid Q0
    have H1 := Lib.hid Q1
    have HB := Lib.hid hB
    have HD := Lib.hid hd
    clear Q0 Q1 hB hd
    by_cases hlt : k < 32
    · have k0 : (0 : Int) ≤ (k : Int) := by omega
      have k32 : (k : Int) < 32 := by omega
      go_wp2_with (go_at_call 27; refine (bit01_any v (k : Int) _ v0 (by omega) (by omega)).mono ?_; rintro e w2 ⟨rfl, hb2⟩; have q0 := RowAt.ext H0.out hb2; have q1 := RowAt.ext H1.out hb2; have qB := below_then HB.out hb2; have fz := RowAt.frozen q1; have cc := RowAt.cell q1 (bools_get (List.getElem?_eq_getElem (show k < l.length by omega))))
      go_roundw
      case measure => simp [intOf]; omega
      case rel =>
        have Q3 := RowAt.set q1 k (.bool (bitI v k))
        rw [bools_set] at Q3
        refine ⟨k + 1, l.set k (bitI v k), by omega, by go_num, by simp [hl], fun q hq => ?_, RowAt.other q0 (by simp) _, Q3, below_set qB (by simp) _⟩
        rw [List.getElem?_set]
        by_cases hqe : k = q
        · subst hqe; rw [if_pos rfl, if_pos (by omega)]
        · rw [if_neg hqe]; exact HD.out q (by omega)
    · obtain rfl : k = 32 := by omega
      have hi : (Tryd.prog.info? 37).map (·.size) = some (bools l).size := by rw [bools_size, hl]; exact info32
      have el : l = t32 (bitI v) := list_of_places l 32 _ hl HD.out
      have ho : (bools (t32 fun _ => false)).size = (bools l).size := by rw [bools_size, bools_size, hl]; simp [t32]
      go_wp2_with (first | (refine wpList_load_row rfl 37 (.tmp 3) rfl (w.heap.size + 1) rfl 37 (bools l) (0, 0) _ H1.out Tryd.underlying37 rfl hi ?_) | (refine wpList_store_row rfl 37 (.tmp 2) (.tmp 15) rfl w.heap.size (bools l) rfl rfl 37 _ H0.out hi ho (bools_one l) ?_))
      refine bodyPost_ret (v := .agg (bools l)) (results_cell_row rfl _ _ w.heap.size 37 (bools l) (0, 0) _ rfl (H0.out.setRow (bools l)) Tryd.underlying37 rfl hi) rfl ⟨by rw [el], below_setRow HB.out (Nat.le_refl _) _⟩
end Go.Proofs.YtaihebdjhbnhoaaDoor
