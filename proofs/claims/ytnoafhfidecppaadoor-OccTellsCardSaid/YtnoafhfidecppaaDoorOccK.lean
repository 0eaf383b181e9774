/- All slots: the document's, and the program's. -/
import Derived.Test.YtnoafhfidecppaaDoorOccJ
import Derived.Test.YtnoafhfidecppaaDoorOccI
import Derived.Test.YtnoafhfidecppaaDoorSl
import Derived.Deep.Cut
namespace Go.Proofs.YtnoafhfidecppaaDoor
open Go.RowKit
set_option linter.unusedVariables false
set_option linter.unusedSimpArgs false

theorem lv_step (m : Map8) (j : Nat) (hj : j < 8) : lv m (8 - j) j = (rowI (m.at j) 0).map (fun s => (j, s)) ++ lv m (8 - (j + 1)) (j + 1) := by
  rw [show 8 - j = (8 - (j + 1)) + 1 by omega, lv]
theorem Holds.of_row {m : Map8} {B : Nat} {W : World} {t : TypeId} (hT : Tab W) (h : RowAt W B m.arr t) : Holds m B W :=
  ⟨hT, fun i hi => by have := m.cell i (by omega) (by omega); rw [Int.toNat_natCast] at this; exact h.cell this⟩
set_option maxHeartbeats 8000000 in
set_option maxRecDepth 100000 in
theorem collect_any (m : Map8) (B : Nat) (w : World) (hH : Holds m B w) :
    Calls Tryd.prog 61 #[.func (.func 64) #[] #[.pointer (some ⟨B, 0, none⟩)]] w fun e w' => ∃ v, e = .returned v ∧ Sl w' v (allI m).length ((allI m).flatMap pc) (fun g => w.heap.size ≤ g) ∧ Below w.heap.size w w' := by
  go_enter Tryd.func61, Tryd.ntmps61
  go_wp2_with (go_at_call 63; refine (appseq_any m B _ hH).mono ?_; rintro e w1 ⟨v, rfl, hown, hb⟩)
  go_ret
  exact ⟨v, rfl, Sl.of_own hown, hb⟩
set_option maxHeartbeats 8000000 in
set_option maxRecDepth 100000 in
theorem all_any (m : Map8) (w : World) (hT : Tab w) :
    Calls Tryd.prog 49 #[m.val] w fun e w' => ∃ v, e = .returned v ∧ Sl w' v (allI m).length ((allI m).flatMap pc) (fun g => w.heap.size ≤ g) ∧ Below w.heap.size w w' := by
  unfold Map8.val
  have e := m.arr_eq
  go_enter Tryd.func49, Tryd.ntmps49
  have HT := Lib.hid hT
  clear hT
  rw [m.arr_eq]
  go_wp2_with (first | (go_at_call 62; refine (each_arr m _).mono ?_; rintro e w' ⟨rfl, rfl⟩) | (go_at_call 61; refine (collect_any m _ _ (Holds.of_row (HT.out.ext (below_new (below_new (Below.refl _ _) _) _)) (t := 40) (by rw [← e] at *; simpa using RowAt.new (w.alloc (.cells m.arr 40)) m.arr 40))).mono ?_; rintro e w1 ⟨v, rfl, hS, hb⟩))
  go_ret
  exact ⟨v, rfl, hS.mono (fun g h => by simp at h; omega), below_then (below_new (below_new (Below.refl _ _) _) _) hb⟩
set_option maxHeartbeats 8000000 in
set_option maxRecDepth 100000 in
theorem rall_any (m : Map8) (w : World) :
    Calls Tryd.prog 48 #[tbl (tOf m)] w fun e w' => ∃ v, e = .returned v ∧ Sl w' v (allI m).length ((allI m).flatMap pc) (fun g => w.heap.size ≤ g) ∧ Below w.heap.size w w' := by
  have hall := allI_length m
  have hsz := bools_size (tl (tOf m))
  unfold tbl
  go_enter Tryd.func48, Tryd.ntmps48
  go_upto_region 3 with fail
  refine wp_name (Pr := fun W => RowAt W w.heap.size (bools (tl (tOf m))) 46 ∧ Below w.heap.size w W ∧ W.heap.size = w.heap.size + 1) ⟨RowAt.new w _ _, below_new (Below.refl _ _) _, by simp⟩ ?_
  rintro W ⟨hR, hB, hWs⟩
  have HB := Lib.hid hB
  have HR := Lib.hid hR
  have HWs := Lib.hid hWs
  clear hR hB hWs
  go_loopw [3, 4, 5] (fun v k _ wr => ∃ (j : Nat) (pre : List (Nat × Nat)), j ≤ 8 ∧ k = .int .i64 j ∧ allI m = pre ++ lv m (8 - j) j ∧ wr.ownsRow (w.heap.size + 1) 61 2 v pre.length (pre.flatMap pc) ∧ RowAt wr w.heap.size (bools (tl (tOf m))) 46 ∧ Below (w.heap.size + 1) W wr)
    (fun _ k _ _ => 8 - (intOf k).toNat)
  case atStart => exact ⟨0, [], by omega, rfl, rfl, ⟨by simp, .inl ⟨rfl, rfl⟩⟩, HR.out, HWs.out ▸ Below.refl _ _⟩
  case round =>
    obtain ⟨j, pre, hj, rfl, hx, hO, hR, hBB⟩ := hrel
    by_cases hlt : j < 8
    · rw [lv_step m j hlt] at hx
      have HX := Lib.hid hx
      have HO := Lib.hid hO
      have HRR := Lib.hid hR
      have HBB := Lib.hid hBB
      clear hx hO hR hBB
      have dd : decide ((j : Int) < 8) = true := by simp; omega
      go_wp2_with fail
      go_loopw [3, 5] (fun v k wr => ∃ (s : Nat) (pre : List (Nat × Nat)), s ≤ 64 ∧ k = .int .i64 s ∧ allI m = pre ++ ((rowI (m.at j) s).map (fun s => (j, s)) ++ lv m (8 - (j + 1)) (j + 1)) ∧ wr.ownsRow (w.heap.size + 1) 61 2 v pre.length (pre.flatMap pc) ∧ RowAt wr w.heap.size (bools (tl (tOf m))) 46 ∧ Below (w.heap.size + 1) W wr)
        (fun _ k _ => 64 - (intOf k).toNat)
      case atStart => exact ⟨0, pre, by omega, rfl, HX.out, HO.out, HRR.out, HBB.out⟩
      case round =>
        clear HX HO HRR HBB
        obtain ⟨s, pre, hs, rfl, hx, hO, hR, hBB⟩ := hrel
        by_cases hlt2 : s < 64
        · have hc := hR.cell (bools_get (range_get 512 (tOf m) (j * 64 + s) (by omega)))
          rw [tOf_at m j s hlt2] at hc
          have hst := row_step (m.at j) s hlt2
          have hol2 : pre.length ≤ 1000000000 := by
            have := congrArg List.length hx
            rw [List.length_append] at this
            omega
          have HO := Lib.hid hO
          have HBB := Lib.hid hBB
          have HRR := Lib.hid hR
          rcases Bool.eq_false_or_eq_true (bitI (m.at j) s) with hb | hb
          · rw [hb] at hc hst
            rw [if_pos rfl] at hst
            rw [hst, List.map_cons] at hx
            have HX := Lib.hid hx
            clear hx hst hO hBB hR hb
            go_wp2_with (at_builtin; refine wpList_grow1 rfl (.tmp 19) (.tmp 23) 55 rfl (w.heap.size + 1) 61 2 16 Tryd.underlying55 (by kernel_rfl) (by decide) (by decide) _ _ _ rfl HO.out [.int .i64 j, .int .i64 s] rfl rfl (by simp [Value.oneCell']) hol2 (by have q1 := HBB.out.size; have q2 := HWs.out; omega) HBB.out _ ?_; intro v1 w1 hown1 hB1 hs1 hsame1)
            go_roundw
            case measure => simp [intOf]; omega
            case rel =>
              refine ⟨s + 1, pre ++ [(j, s)], by omega, by go_num, by rw [HX.out]; simp, by simpa [pc] using hown1, ?_, hB1⟩
              exact (hsame1 _ HRR.out.lt (ownsRow_far HO.out (by omega))).trans HRR.out
          · rw [hb] at hc hst
            rw [if_neg (by simp)] at hst
            rw [hst] at hx
            have HX := Lib.hid hx
            clear hx hst hO hBB hR hb
            go_wp2_with fail
            go_roundw
            case measure => simp [intOf]; omega
            case rel => exact ⟨s + 1, pre, by omega, by go_num, HX.out, HO.out, HRR.out, HBB.out⟩
        · obtain rfl : s = 64 := by omega
          rw [row_end, List.map_nil, List.nil_append] at hx
          go_wp2_with fail
          go_roundw
          case measure => simp [intOf]; omega
          case rel => exact ⟨j + 1, pre, by omega, by go_num, hx, hO, hR, hBB⟩
    · obtain rfl : j = 8 := by omega
      have hx' : allI m = pre := by rw [hx]; simp [lv]
      subst hx'
      go_wp2_with fail
      go_ret
      refine ⟨_, rfl, (Sl.of_own hO).mono (fun g h => by omega), ?_⟩
      exact below_then HB.out (by rw [HWs.out]; exact hBB)
end Go.Proofs.YtnoafhfidecppaaDoor
