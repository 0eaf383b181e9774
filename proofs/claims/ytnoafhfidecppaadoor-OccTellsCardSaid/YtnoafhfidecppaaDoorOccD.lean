/- Count, Lowest. -/
import Derived.Test.YtnoafhfidecppaaDoorOccC
namespace Go.Proofs.YtnoafhfidecppaaDoor
open Go.RowKit Go.Shelf
set_option linter.unusedVariables false
set_option linter.unusedSimpArgs false
attribute [local go_sem] Oper.semAt_some
theorem slots_length (n : Int) : ∀ f i, (slots n f i).length ≤ f
  | 0, _ => by simp [slots]
  | f + 1, i => by
    have := slots_length n f (i + 1)
    rw [slots]
    split
    · rw [List.length_cons]; omega
    · omega
theorem lv_length (m : Map8) : ∀ f k, (lv m f k).length ≤ 64 * f
  | 0, _ => by simp [lv]
  | f + 1, k => by
    have h1 := lv_length m f (k + 1)
    have h2 := slots_length (m.at k) 64 0
    rw [lv, List.length_append, List.length_map]
    unfold rowI
    have h3 : (slots (m.at k) (64 - 0) 0).length ≤ 64 := slots_length _ _ _
    omega
theorem allI_length (m : Map8) : (allI m).length ≤ 512 := lv_length m 8 0
theorem Holds.set {m : Map8} {B : Nat} {W : World} (h : Holds m B W) (p : Addr) (u : Value) (hp : p.block ≠ B ∧ p.block ≠ 0) : Holds m B (W.setCell p u) := by
  refine ⟨fun j hj => ?_, fun i hi => ?_⟩
  · rw [World.cell?_setCell_other _ _ _ _ (fun e => hp.2 (by rw [e]))]
    exact h.1 j hj
  · rw [World.cell?_setCell_other _ _ _ _ (fun e => hp.1 (by rw [e]))]
    exact h.2 i hi
theorem block_lt_cell {w : World} {b : Nat} {i : Nat} {v : Value} (h : w.cell? ⟨b, i, none⟩ = some v) : b < w.heap.size := World.block_lt_of_cell? w ⟨b, i, none⟩ h
theorem each_stops (m : Map8) (n B : Nat) (hn : 1 ≤ n) (w : World) (hH : Holds m B w) :
    SeqStopsK Fence.wide n Tryd.prog 64 #[.pointer (some ⟨B, 0, none⟩)] encS (fun W W' => Holds m B W → Holds m B W') (fun ys => ys = allI m) (fun pre => pre <+: allI m) (allI m).length w :=
  fun l J Jx W hW hJ _ hY h0 => each1_in m n l B hn _ J Jx hJ hY W (hH.below hW) h0
theorem each_arr (m : Map8) (w : World) :
    Calls Tryd.prog 62 #[.agg #[.int .u64 (m.at 0), .int .u64 (m.at 1), .int .u64 (m.at 2), .int .u64 (m.at 3), .int .u64 (m.at 4), .int .u64 (m.at 5), .int .u64 (m.at 6), .int .u64 (m.at 7)]] w fun e w' => e = .returned (.func (.func 64) #[] #[.pointer (some ⟨w.heap.size, 0, none⟩)]) ∧ w' = w.alloc (.cells #[.int .u64 (m.at 0), .int .u64 (m.at 1), .int .u64 (m.at 2), .int .u64 (m.at 3), .int .u64 (m.at 4), .int .u64 (m.at 5), .int .u64 (m.at 6), .int .u64 (m.at 7)] 40) := by
  have := each_any m w
  unfold Map8.val at this
  rw [m.arr_eq] at this
  exact this
theorem cell_in {W : World} {b i : Nat} {cs : Array Value} {t : TypeId} {v : Value} (h : W.heap[b]? = some (.cells cs t (0, 0))) (hv : cs[i]? = some v) : W.cell? ⟨b, i, none⟩ = some v :=
  (cell_of_row W b i cs t (0, 0) h).trans hv
theorem frozen_in {W : World} {b i : Nat} {cs : Array Value} {t : TypeId} (h : W.heap[b]? = some (.cells cs t (0, 0))) : W.frozen? ⟨b, i, none⟩ = false := by simp [World.frozen?, h]
theorem box3 (w : World) (o o2 o3 : Obj) {W : World} (hW : ((w.alloc o).alloc o2).alloc o3 = W) : Below w.heap.size w W ∧ W.heap[w.heap.size]? = some o ∧ W.heap[w.heap.size + 1]? = some o2 ∧ W.heap[w.heap.size + 2]? = some o3 ∧ W.heap.size = w.heap.size + 3 := by
  subst hW
  exact ⟨below_new (below_new (below_new (Below.refl _ _) _) _) _, ((Below.heap_alloc _ _ _ (by simp; omega)).trans ((Below.heap_alloc _ _ _ (by simp)).trans (heap_alloc_new w o))),
    ((Below.heap_alloc _ _ _ (by simp)).trans (by have := heap_alloc_new (w.alloc o) o2; simpa using this)), (by have := heap_alloc_new ((w.alloc o).alloc o2) o3; simpa using this), by simp⟩
set_option maxHeartbeats 4000000 in
set_option maxRecDepth 100000 in
theorem count_any (m : Map8) (w : World) (hT : Tab w) :
    Calls Tryd.prog 51 #[m.val] w fun e w' => e = .returned (.int .i64 (allI m).length) ∧ Below w.heap.size w w' := by
  have hlen := allI_length m
  unfold Map8.val
  rw [m.arr_eq]
  refine (callsIn_wide (n := 5)).1 ?_
  refine callsIn_of_wp_marks Tryd.func51 rfl trivial ?_ rfl
  simp only [Tryd.ntmps51, List.size_toArray, List.length_cons, List.length_nil, Nat.reduceAdd, Nat.reduceSub, Array.replicate_succ, Array.replicate_zero, List.push_toArray, List.append_toArray, List.nil_append, List.cons_append]
  gi_wp2_with (refine ⟨trivial, ?_⟩; gi_at_call 62; refine (callsIn_wide.2 (each_arr m _)).mono ?_; rintro e w' ⟨rfl, rfl⟩)
  obtain ⟨W0, hW0⟩ : ∃ W0, (((w.alloc (.cells #[.int .u64 (m.at 0), .int .u64 (m.at 1), .int .u64 (m.at 2), .int .u64 (m.at 3), .int .u64 (m.at 4), .int .u64 (m.at 5), .int .u64 (m.at 6), .int .u64 (m.at 7)] 40)).alloc (.cells #[.int .i64 0] 3)).alloc (.cells #[.int .u64 (m.at 0), .int .u64 (m.at 1), .int .u64 (m.at 2), .int .u64 (m.at 3), .int .u64 (m.at 4), .int .u64 (m.at 5), .int .u64 (m.at 6), .int .u64 (m.at 7)] 40)) = W0 := ⟨_, rfl⟩
  rw [hW0]
  obtain ⟨hB0, g1, g2, hb, gs⟩ := box3 w _ _ _ hW0
  have hH : Holds m (w.heap.size + 1 + 1) W0 := ⟨(hT.ext hB0), fun i hi => by have hi8 : i = 0 ∨ i = 1 ∨ i = 2 ∨ i = 3 ∨ i = 4 ∨ i = 5 ∨ i = 6 ∨ i = 7 := (by omega); rcases hi8 with rfl | rfl | rfl | rfl | rfl | rfl | rfl | rfl <;> exact cell_in hb rfl⟩
  refine wpIn_rangeFunc_ownF rfl (by omega) (gf := 64) (lb := #[.pointer (some ⟨w.heap.size + 1 + 1, 0, none⟩)]) rfl trivial (enters_of Tryd.func64 (by kernel_rfl) rfl)
    (each_stops m _ (w.heap.size + 1 + 1) (by omega) W0 hH) (fun h k x => k (h x)) (fun W l o o' _ hl hc _ h => h.put l o o' hl hc) (Below.refl _ _) (fun _ => rfl)
    (fun pre W => (W.cell? ⟨w.heap.size + 1, 0, none⟩ = some (.int .i64 pre.length) ∧ W.frozen? ⟨w.heap.size + 1, 0, none⟩ = false) ∧ Below w.heap.size w W)
    (fun _ _ _ => False)
    (OwnFrom.and (Own.from (fun s A B row hs hg hr => ⟨cell_kept hs.1 hg hr, (frozen_kept hs.1 hg hr).trans hs.2⟩) _) (ownFrom_below (Nat.le_refl _) (by omega)))
    (fun _ _ _ _ _ hs _ _ => hs)
    ⟨⟨cell_in g2 rfl, frozen_in g2⟩, hB0⟩
    (fun x => { tmps := #[.agg #[.int .u64 (m.at 0), .int .u64 (m.at 1), .int .u64 (m.at 2), .int .u64 (m.at 3), .int .u64 (m.at 4), .int .u64 (m.at 5), .int .u64 (m.at 6), .int .u64 (m.at 7)], .pointer (some ⟨w.heap.size, 0, none⟩), .int .i64 0, .pointer (some ⟨w.heap.size + 1, 0, none⟩), .agg #[.int .u64 (m.at 0), .int .u64 (m.at 1), .int .u64 (m.at 2), .int .u64 (m.at 3), .int .u64 (m.at 4), .int .u64 (m.at 5), .int .u64 (m.at 6), .int .u64 (m.at 7)], .func (.func 64) #[] #[.pointer (some ⟨w.heap.size + 1 + 1, 0, none⟩)], .agg #[.int .i64 x.1, .int .i64 x.2], undef, undef, undef], defers := [] }) ?assign ?body ?done ?stop
  case assign =>
    intro l x W K hK
    dsimp only [encS]
    gi_wp2
    simpa using hK
  case body =>
    rintro l pre x W ⟨⟨hc, hf⟩, hB⟩ hlt
    have hp : pre.length < 512 := by omega
    gi_wp2
    exact ⟨KeepsOthers.setCell _ _ _, fun h => h.set _ _ ⟨by simp, by have := block_lt_cell (hT 0 (by decide)); simp <;> omega⟩, ⟨by rw [World.cell?_setCell_same' _ _ _ (by rw [hc]; rfl)]; simp, by rw [World.frozen?_setCell]; exact hf⟩, hB.setCell (p := ⟨w.heap.size + 1, 0, none⟩) (by simp) _⟩
  case done =>
    rintro D ys W hD rfl ⟨⟨hc, _⟩, hB⟩ hK
    gi_wp2
    refine ⟨by simp, .inl ⟨_, _, rfl, run_takeDeferred hK, ?_⟩⟩
    exact ⟨_, results_tmp rfl _ _ _, rfl, hB.trans (belowK_b (w := w) (Nat.le_refl _) W D _ _ (by omega) hK rfl rfl)⟩
  case stop =>
    rintro D c pre W _ _ h _
    exact h.elim
end Go.Proofs.YtnoafhfidecppaaDoor
