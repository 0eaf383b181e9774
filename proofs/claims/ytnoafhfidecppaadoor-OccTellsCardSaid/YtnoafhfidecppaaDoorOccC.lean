/- All slots of a table, in order; the iterator each. -/
import Derived.Test.YtnoafhfidecppaaDoorOccB
import Derived.RangeFuncNested
import Derived.RangeFuncBound
import Derived.RangeFuncCalls
import Derived.RangeFuncLeaves
import Derived.Shelf.Abstract
import Derived.Shelf.RegionOpen
import Derived.WalkKit
import Derived.OwnWalkIn
import Derived.TacticsInMore
import Derived.LoopNIn
import Derived.LoopIn
import Derived.RangeFuncFrom
namespace Go.Proofs.YtnoafhfidecppaaDoor
open Go.RowKit Go.Shelf
set_option linter.unusedVariables false
set_option linter.unusedSimpArgs false
attribute [local go_sem] Oper.semAt_some

def slots (n : Int) : Nat → Nat → List Nat
  | 0, _ => []
  | f + 1, i => if bitI n i = true then i :: slots n f (i + 1) else slots n f (i + 1)
def rowI (n : Int) (s : Nat) : List Nat := slots n (64 - s) s
theorem scan_slots (n : Int) : ∀ f i, scan n f i = match slots n f i with | [] => -1 | x :: _ => (x : Int)
  | 0, _ => rfl
  | f + 1, i => by
    rw [scan, slots]
    by_cases h : bitI n i = true
    · rw [if_pos h, if_pos h]
    · rw [if_neg h, if_neg h]
      exact scan_slots n f (i + 1)
theorem slots_cons (n : Int) : ∀ f i x r, slots n f i = x :: r → i ≤ x ∧ x < i + f ∧ bitI n x = true ∧ r = slots n (i + f - (x + 1)) (x + 1)
  | 0, _, _, _, h => by simp [slots] at h
  | f + 1, i, x, r, h => by
    rw [slots] at h
    by_cases hb : bitI n i = true
    · rw [if_pos hb, List.cons.injEq] at h
      obtain ⟨rfl, rfl⟩ := h
      refine ⟨by omega, by omega, hb, ?_⟩
      rw [show i + (f + 1) - (i + 1) = f by omega]
    · rw [if_neg hb] at h
      obtain ⟨h1, h2, h3, h4⟩ := slots_cons n f (i + 1) x r h
      refine ⟨by omega, by omega, h3, ?_⟩
      rw [h4, show i + 1 + f - (x + 1) = i + (f + 1) - (x + 1) by omega]
theorem row_first (n : Int) (s : Nat) : firstI n s = match rowI n s with | [] => -1 | x :: _ => (x : Int) := by
  rw [firstI, Int.toNat_natCast, scan_slots, rowI]
theorem row_cons {n : Int} {s x : Nat} {r : List Nat} (h : rowI n s = x :: r) : s ≤ x ∧ x < 64 ∧ bitI n x = true ∧ r = rowI n (x + 1) := by
  obtain ⟨h1, h2, h3, h4⟩ := slots_cons n _ _ _ _ h
  refine ⟨h1, by omega, h3, ?_⟩
  rw [h4, rowI, show s + (64 - s) - (x + 1) = 64 - (x + 1) by omega]
def lv (m : Map8) : Nat → Nat → List (Nat × Nat)
  | 0, _ => []
  | f + 1, k => (rowI (m.at k) 0).map (fun s => (k, s)) ++ lv m f (k + 1)
def allI (m : Map8) : List (Nat × Nat) := lv m 8 0

/-- What the iterator reads between two rounds. -/
def Holds (m : Map8) (B : Nat) (W : World) : Prop := Tab W ∧ ∀ i : Nat, i < 8 → W.cell? ⟨B, i, none⟩ = some (.int .u64 (m.at i))
theorem Holds.below {m : Map8} {B : Nat} {W W' : World} (h : Holds m B W) (hb : Below W.heap.size W W') : Holds m B W' :=
  ⟨h.1.ext hb, fun i hi => (⟨W', hb⟩ : Ext W.heap.size W).cell (h.2 i hi)⟩
theorem Holds.put {m : Map8} {B : Nat} {W : World} (h : Holds m B W) (l : Nat) (o o' : Obj) (hl : W.heap[l]? = some o) (hc : o.isCells = false) : Holds m B (W.putObj l o') :=
  ⟨fun j hj => cell_kept (h.1 j hj) (grownBy_putObj' W l o') (fun r e => by cases e; exact ⟨_, hl, hc⟩),
   fun i hi => cell_kept (h.2 i hi) (grownBy_putObj' W l o') (fun r e => by cases e; exact ⟨_, hl, hc⟩)⟩
theorem Holds.cells {m : Map8} {B : Nat} {W : World} (h : Holds m B W) : W.cell? ⟨B, 0, none⟩ = some (.int .u64 (m.at 0)) ∧ W.cell? ⟨B, 1, none⟩ = some (.int .u64 (m.at 1)) ∧ W.cell? ⟨B, 2, none⟩ = some (.int .u64 (m.at 2)) ∧ W.cell? ⟨B, 3, none⟩ = some (.int .u64 (m.at 3)) ∧ W.cell? ⟨B, 4, none⟩ = some (.int .u64 (m.at 4)) ∧ W.cell? ⟨B, 5, none⟩ = some (.int .u64 (m.at 5)) ∧ W.cell? ⟨B, 6, none⟩ = some (.int .u64 (m.at 6)) ∧ W.cell? ⟨B, 7, none⟩ = some (.int .u64 (m.at 7)) :=
  ⟨h.2 0 (by omega), h.2 1 (by omega), h.2 2 (by omega), h.2 3 (by omega), h.2 4 (by omega), h.2 5 (by omega), h.2 6 (by omega), h.2 7 (by omega)⟩
theorem abides_below {β : Type} {B : Nat} {J : β → World → Prop} (h : AbidesFrom B J) {s : β} {W W' : World} (hs : J s W) (hb : Below W.heap.size W W') : J s W' :=
  h s W W' none hs ⟨hb.os, hb.tape, hb.output, hb.size, fun k hk _ => hb.block k hk⟩ (fun r e => by cases e)
def encS (p : Nat × Nat) : Array Value := #[.agg #[.int .i64 p.1, .int .i64 p.2]]
theorem next_arr (m : Map8) (l s : Int) (w : World) (hT : Tab w) :
    Calls Tryd.prog 38 #[.agg #[.int .u64 (m.at 0), .int .u64 (m.at 1), .int .u64 (m.at 2), .int .u64 (m.at 3), .int .u64 (m.at 4), .int .u64 (m.at 5), .int .u64 (m.at 6), .int .u64 (m.at 7)], .int .i64 l, .int .i64 s] w fun e w' => e = .returned (.int .i64 (nextI m l s)) ∧ Below w.heap.size w w' := by
  rw [← m.arr_eq]
  exact next_any m l s w hT
theorem next_row (m : Map8) (k i : Nat) (hk : k < 8) : nextI m k i = firstI (m.at k) i := by rw [nextI, if_pos (by omega)]
theorem meas (m : Map8) (k x : Nat) (hk : k < 8) (hx : x < 64) : (if nextI m k ((x : Int) + 1) < 0 then 0 else 64 - (nextI m k ((x : Int) + 1)).toNat) < (if (x : Int) < 0 then 0 else 64 - (x : Int).toNat) := by
  have e := next_row m k (x + 1) hk
  rw [show (((x + 1 : Nat)) : Int) = (x : Int) + 1 by omega] at e
  have f := row_first (m.at k) (x + 1)
  rw [show (((x + 1 : Nat)) : Int) = (x : Int) + 1 by omega] at f
  rw [e, f]
  cases hr : rowI (m.at k) (x + 1) with
  | nil =>
    dsimp only
    rw [if_pos (show (-1 : Int) < 0 by omega), if_neg (by omega)]
    omega
  | cons y r =>
    obtain ⟨q1, q2, _, _⟩ := row_cons hr
    dsimp only
    rw [if_neg (by omega), if_neg (by omega)]
    omega
set_option maxHeartbeats 4000000 in
set_option maxRecDepth 100000 in
theorem each_any (m : Map8) (w : World) :
    Calls Tryd.prog 62 #[m.val] w fun e w' => e = .returned (.func (.func 64) #[] #[.pointer (some ⟨w.heap.size, 0, none⟩)]) ∧ w' = w.alloc (.cells m.arr 40) := by
  unfold Map8.val
  go_enter Tryd.func62, Tryd.ntmps62
  go_wp2
  go_ret
  exact ⟨rfl, rfl⟩
set_option maxHeartbeats 4000000 in
set_option maxRecDepth 100000 in
theorem each1_in (m : Map8) (n l B : Nat) (hn : 1 ≤ n) (B0 : Nat) (J Jx : List (Nat × Nat) → World → Prop) (hJ : AbidesFrom B0 J)
    (hY : ∀ pre x W, J pre W → pre.length < (allI m).length → YieldAt Fence.wide (n - 1) Tryd.prog l (encS x) W fun e W' =>
      (e = .returned (.bool true) ∧ J (pre ++ [x]) W' ∧ (Holds m B W → Holds m B W')) ∨ (e = .returned (.bool false) ∧ Jx (pre ++ [x]) W'))
    (W : World) (hH : Holds m B W) (h0 : J [] W) :
    CallsIn Fence.wide n Tryd.prog 64 #[.func (.yield l) #[] #[], .pointer (some ⟨B, 0, none⟩)] W fun e W' => (∃ v, e = .returned v) ∧
      ((∃ ys, ys = allI m ∧ J ys W') ∨ (∃ pre, pre <+: allI m ∧ Jx pre W')) := by
  refine callsIn_of_wp Tryd.func64 rfl trivial ?_ rfl
  simp only [Tryd.ntmps64, List.size_toArray, List.length_cons, List.length_nil, Nat.reduceAdd, Nat.reduceSub, Array.replicate_succ, Array.replicate_zero, List.push_toArray, List.append_toArray, List.nil_append, List.cons_append]
  gi_wp2
  gi_loopw [5] (fun v wr => ∃ (k : Nat) (pre : List (Nat × Nat)), v = .int .i64 k ∧ k ≤ 8 ∧ allI m = pre ++ lv m (8 - k) k ∧ Holds m B wr ∧ J pre wr)
    (fun v wr => 8 - (intOf v).toNat)
  case atStart => exact ⟨0, [], rfl, by omega, rfl, hH, h0⟩
  case round =>
    obtain ⟨k, pre, rfl, hk, hx, hh, hj⟩ := hrel
    by_cases hk8 : k < 8
    · have d1 : decide ((k : Int) < 8) = true := by simp; omega
      obtain ⟨c0, c1, c2, c3, c4, c5, c6, c7⟩ := hh.cells
      have hT := Lib.hid hh.1
      gi_wp2_with (refine ⟨trivial, ?_⟩; gi_at_call 38; refine (callsIn_wide.2 (next_arr m _ _ _ hT.out)).mono ?_; rintro e w1 ⟨rfl, hb1⟩)
      have hh1 := hh.below hb1
      have hj1 := abides_below hJ hj hb1
      have en := next_row m k 0 hk8
      have hx1 : allI m = pre ++ ((rowI (m.at k) 0).map (fun s => (k, s)) ++ lv m (8 - (k + 1)) (k + 1)) := by
        rw [hx, show 8 - k = (8 - (k + 1)) + 1 by omega, lv]
      clear c0 c1 c2 c3 c4 c5 c6 c7
      gi_loopw [4] (fun v wr => ∃ (i : Nat) (pre : List (Nat × Nat)), v = .int .i64 (firstI (m.at k) i) ∧ allI m = pre ++ ((rowI (m.at k) i).map (fun s => (k, s)) ++ lv m (8 - (k + 1)) (k + 1)) ∧ Holds m B wr ∧ J pre wr)
        (fun v wr => if intOf v < 0 then 0 else 64 - (intOf v).toNat)
      case atStart => exact ⟨0, pre, by rw [← en]; rfl, hx1, hh1, hj1⟩
      case round =>
        obtain ⟨i, pre, rfl, hx, hh, hj⟩ := hrel
        have ef := row_first (m.at k) i
        cases hr : rowI (m.at k) i with
        | nil =>
          rw [hr] at ef hx
          rw [ef]
          gi_wp2
          go_roundw
          case measure => simp [intOf]; omega
          case rel => exact ⟨k + 1, pre, by go_num, by omega, by rw [hx]; simp, hh, hj⟩
        | cons x r =>
          obtain ⟨q1, q2, q3, q4⟩ := row_cons hr
          rw [hr] at ef hx
          rw [ef]
          have d2 : decide (0 ≤ (x : Int)) = true := by simp
          obtain ⟨fn, tmps, assign, body, hy, hR⟩ := hY pre (k, x) _ hj (by rw [hx]; simp)
          dsimp only [encS] at hy
          gi_wp2
          refine hR.mono ?_
          rintro e W3 (⟨rfl, hJ3, hk3⟩ | ⟨rfl, hJx3⟩)
          · have hh3 := hk3 hh
            obtain ⟨c0, c1, c2, c3, c4, c5, c6, c7⟩ := hh3.cells
            have hT3 := Lib.hid hh3.1
            gi_wp2_with (refine ⟨trivial, ?_⟩; gi_at_call 38; refine (callsIn_wide.2 (next_arr m _ _ _ hT3.out)).mono ?_; rintro e w4 ⟨rfl, hb4⟩)
            go_roundw
            case measure => exact meas m k x hk8 q2
            case rel => exact ⟨x + 1, pre ++ [(k, x)], by rw [← next_row m k (x + 1) hk8]; go_num, by rw [hx, q4]; simp, hh3.below hb4, abides_below hJ hJ3 hb4⟩
          · gi_wp2
            refine bodyPost_ret (results_none rfl _ _ _) rfl ?_
            exact ⟨⟨_, rfl⟩, .inr ⟨pre ++ [(k, x)], ⟨r.map (fun s => (k, s)) ++ lv m (8 - (k + 1)) (k + 1), by rw [hx]; simp⟩, hJx3⟩⟩
    · obtain rfl : k = 8 := by omega
      gi_wp2
      go_end0
      exact ⟨⟨_, rfl⟩, .inl ⟨_, by rw [hx]; simp [lv], hj⟩⟩
end Go.Proofs.YtnoafhfidecppaaDoor
