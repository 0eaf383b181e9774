/- Lowest; known of law 15. -/
import Derived.Test.YtnoafhfidecppaaDoorOccD
namespace Go.Proofs.YtnoafhfidecppaaDoor
open Go.RowKit Go.Shelf
set_option linter.unusedVariables false
set_option linter.unusedSimpArgs false
attribute [local go_sem] Oper.semAt_some
def lowI (m : Map8) : Int × Int := match allI m with | [] => (-1, -1) | p :: _ => (p.1, p.2)
theorem eql_map (xs ys : List Int) (hx : xs.length = 8) (hy : ys.length = 8) (w : World) : (binOp .eql 40 (.agg (xs.map (Value.int .u64)).toArray) (.agg (ys.map (Value.int .u64)).toArray)).run Tryd.prog w = .ok (.bool (xs == ys)) w := by
  obtain ⟨i, hi, hz⟩ := Option.map_eq_some_iff.1 Tryd.infoU64
  exact run_eql_array_int w 40 22 8 .u64 .u64 i Tryd.underlying40 Tryd.underlying22 hi hz xs ys hx hy
theorem eql_zero (m : Map8) (w : World) : (binOp .eql 40 (.agg #[.int .u64 (m.at 0), .int .u64 (m.at 1), .int .u64 (m.at 2), .int .u64 (m.at 3), .int .u64 (m.at 4), .int .u64 (m.at 5), .int .u64 (m.at 6), .int .u64 (m.at 7)]) (.agg #[.int .u64 0, .int .u64 0, .int .u64 0, .int .u64 0, .int .u64 0, .int .u64 0, .int .u64 0, .int .u64 0])).run Tryd.prog w = .ok (.bool ([m.at 0, m.at 1, m.at 2, m.at 3, m.at 4, m.at 5, m.at 6, m.at 7] == [0, 0, 0, 0, 0, 0, 0, 0])) w :=
  eql_map [m.at 0, m.at 1, m.at 2, m.at 3, m.at 4, m.at 5, m.at 6, m.at 7] [0, 0, 0, 0, 0, 0, 0, 0] rfl rfl w
theorem row_zero (f i : Nat) : slots 0 f i = [] := by
  induction f generalizing i with
  | zero => rfl
  | succ f ih => rw [slots, if_neg (by simp [bitI])]; exact ih _
theorem low_zero (m : Map8) (h : ([m.at 0, m.at 1, m.at 2, m.at 3, m.at 4, m.at 5, m.at 6, m.at 7] == [0, 0, 0, 0, 0, 0, 0, 0]) = true) : lowI m = (-1, -1) := by
  have h' : [m.at 0, m.at 1, m.at 2, m.at 3, m.at 4, m.at 5, m.at 6, m.at 7] = [0, 0, 0, 0, 0, 0, 0, 0] := by simpa using h
  simp only [List.cons.injEq, and_true] at h'
  obtain ⟨h0, h1, h2, h3, h4, h5, h6, h7⟩ := h'
  have e : allI m = [] := by
    unfold allI
    simp only [lv, rowI]
    simp [h0, h1, h2, h3, h4, h5, h6, h7, row_zero]
  rw [lowI, e]
theorem box4 (w : World) (o o2 o3 o4 : Obj) {W : World} (hW : (((w.alloc o).alloc o2).alloc o3).alloc o4 = W) : Below w.heap.size w W ∧ W.heap[w.heap.size]? = some o ∧ W.heap[w.heap.size + 1]? = some o2 ∧ W.heap[w.heap.size + 2]? = some o3 ∧ W.heap[w.heap.size + 3]? = some o4 ∧ W.heap.size = w.heap.size + 4 := by
  subst hW
  obtain ⟨h1, h2, h3, h4, h5⟩ := box3 w o o2 o3 rfl
  refine ⟨below_then h1 (below_new (Below.refl _ _) _), (Below.heap_alloc _ _ _ (by omega)).trans h2, (Below.heap_alloc _ _ _ (by omega)).trans h3, (Below.heap_alloc _ _ _ (by omega)).trans h4, ?_, by simp⟩
  have := heap_alloc_new (((w.alloc o).alloc o2).alloc o3) o4
  rw [h5] at this
  exact this
theorem set_block {W : World} {b : Nat} {cs : Array Value} {t : TypeId} {fr : Nat × Nat} (h : W.heap[b]? = some (.cells cs t fr)) (i : Nat) (u : Value) : (W.setCell ⟨b, i, none⟩ u).heap[b]? = some (.cells (cs.setIfInBounds i u) t fr) := by
  simp [World.setCell, Array.getElem?_modify, h]
theorem heap_own {β : Type} (B : Nat) (o : Obj) (ho : o.isCells = true) : Own (fun (_ : β) W => W.heap[B]? = some o) := fun s X Y row hs hg hrow =>
  (hg.block B (Array.getElem?_eq_some_iff.1 hs).1 (fun e' => by obtain ⟨o', ho', hc⟩ := hrow B e'.symm; rw [hs] at ho'; cases ho'; rw [ho] at hc; cases hc)).trans hs
set_option maxHeartbeats 4000000 in
set_option maxRecDepth 100000 in
theorem lowest_any (m : Map8) (w : World) (hT : Tab w) :
    Calls Tryd.prog 50 #[m.val] w fun e w' => e = .returned (.tuple #[.int .i64 (lowI m).1, .int .i64 (lowI m).2]) ∧ Below w.heap.size w w' := by
  unfold Map8.val
  rw [m.arr_eq]
  rcases Bool.eq_false_or_eq_true ([m.at 0, m.at 1, m.at 2, m.at 3, m.at 4, m.at 5, m.at 6, m.at 7] == [0, 0, 0, 0, 0, 0, 0, 0]) with hz | hz
  · have hq := fun w => (eql_zero m w).trans (by rw [hz])
    rw [low_zero m hz]
    clear hz
    go_enter Tryd.func50, Tryd.ntmps50
    go_wp2_with (first | simp only [hq] | fail)
    refine bodyPost_ret (v := .tuple #[.int .i64 (-1), .int .i64 (-1)]) (by simp [results, Tryd.results50, go_sem]) rfl ⟨rfl, ?_⟩
    exact below_new (below_new (below_new (Below.refl _ _) _) _) _
  have hq := fun w => (eql_zero m w).trans (by rw [hz])
  clear hz
  refine (callsIn_wide (n := 5)).1 ?_
  refine callsIn_of_wp_marks Tryd.func50 rfl trivial ?_ rfl
  simp only [Tryd.ntmps50, List.size_toArray, List.length_cons, List.length_nil, Nat.reduceAdd, Nat.reduceSub, Array.replicate_succ, Array.replicate_zero, List.push_toArray, List.append_toArray, List.nil_append, List.cons_append]
  gi_wp2_with (first | simp only [hq] | (refine ⟨trivial, ?_⟩; gi_at_call 62; refine (callsIn_wide.2 (each_arr m _)).mono ?_; rintro e w' ⟨rfl, rfl⟩))
  obtain ⟨W0, hW0⟩ : ∃ W0, ((((w.alloc (.cells #[.int .u64 (m.at 0), .int .u64 (m.at 1), .int .u64 (m.at 2), .int .u64 (m.at 3), .int .u64 (m.at 4), .int .u64 (m.at 5), .int .u64 (m.at 6), .int .u64 (m.at 7)] 40)).alloc (.cells #[.int .i64 0] 3)).alloc (.cells #[.int .i64 0] 3)).alloc (.cells #[.int .u64 (m.at 0), .int .u64 (m.at 1), .int .u64 (m.at 2), .int .u64 (m.at 3), .int .u64 (m.at 4), .int .u64 (m.at 5), .int .u64 (m.at 6), .int .u64 (m.at 7)] 40)) = W0 := ⟨_, rfl⟩
  rw [hW0]
  obtain ⟨hB0, g0, g1, g2, hb, gs⟩ := box4 w _ _ _ _ hW0
  rw [show ((((w.alloc (.cells #[.int .u64 (m.at 0), .int .u64 (m.at 1), .int .u64 (m.at 2), .int .u64 (m.at 3), .int .u64 (m.at 4), .int .u64 (m.at 5), .int .u64 (m.at 6), .int .u64 (m.at 7)] 40)).alloc (.cells #[.int .i64 0] 3)).alloc (.cells #[.int .i64 0] 3)).heap.size) = w.heap.size + 3 by simp]
  clear hW0
  have hH : Holds m (w.heap.size + 3) W0 := ⟨(hT.ext hB0), fun i hi => by have hi8 : i = 0 ∨ i = 1 ∨ i = 2 ∨ i = 3 ∨ i = 4 ∨ i = 5 ∨ i = 6 ∨ i = 7 := (by omega); rcases hi8 with rfl | rfl | rfl | rfl | rfl | rfl | rfl | rfl <;> exact cell_in hb rfl⟩
  have low1 : ∀ x : Nat × Nat, [x] <+: allI m → lowI m = ((x.1 : Int), (x.2 : Int)) := fun x hx => by
    obtain ⟨t, ht⟩ := hx
    rw [lowI, ← ht]; rfl
  have low0 : [] = allI m → lowI m = (-1, -1) := fun h => by rw [lowI, ← h]
  refine wpIn_rangeFunc_ownH rfl (by omega) (gf := 64) (lb := #[.pointer (some ⟨w.heap.size + 3, 0, none⟩)]) rfl trivial (enters_of Tryd.func64 (by kernel_rfl) rfl)
    (each_stops m _ (w.heap.size + 3) (by omega) W0 hH) (fun h k x => k (h x)) (fun W l o o' _ hl hc _ h => h.put l o o' hl hc) (Below.refl _ _) (fun _ => rfl)
    (fun pre W => ((pre = [] ∧ W.heap[w.heap.size + 1]? = some (.cells #[.int .i64 0] 3)) ∧ W.heap[w.heap.size + 2]? = some (.cells #[.int .i64 0] 3)) ∧ Below w.heap.size w W)
    (fun c pre W => ((∃ x : Nat × Nat, pre = [x] ∧ c = .ret ∧ W.heap[w.heap.size + 1]? = some (.cells #[.int .i64 x.1] 3) ∧ W.heap[w.heap.size + 2]? = some (.cells #[.int .i64 x.2] 3))) ∧ Below w.heap.size w W)
    (OwnFrom.and (OwnFrom.and (Own.from (fun s X Y row hs hg hr => ⟨hs.1, heap_own (w.heap.size + 1) _ rfl s X Y row hs.2 hg hr⟩) _) (Own.from (heap_own (w.heap.size + 2) _ rfl) _)) (ownFrom_below (Nat.le_refl _) (by omega)))
    (fun c => OwnFrom.and (fun s X Y row hs hg hr => by
      obtain ⟨x, e1, e2, q1, q2⟩ := hs
      exact ⟨x, e1, e2, heap_own (β := Unit) (w.heap.size + 1) _ rfl () X Y row q1 hg (fun r e => (hr r e).2), heap_own (β := Unit) (w.heap.size + 2) _ rfl () X Y row q2 hg (fun r e => (hr r e).2)⟩) (ownFrom_below (Nat.le_refl _) (by omega)))
    ⟨⟨⟨rfl, g1⟩, g2⟩, hB0⟩
    (fun x a' W => ∃ Bx, w.heap.size + 2 < Bx ∧ W.heap[Bx]? = some (.cells #[.int .i64 x.1, .int .i64 x.2] 61) ∧ a' = { tmps := #[.agg #[.int .u64 (m.at 0), .int .u64 (m.at 1), .int .u64 (m.at 2), .int .u64 (m.at 3), .int .u64 (m.at 4), .int .u64 (m.at 5), .int .u64 (m.at 6), .int .u64 (m.at 7)], .pointer (some ⟨w.heap.size, 0, none⟩), .pointer (some ⟨w.heap.size + 1, 0, none⟩), .pointer (some ⟨w.heap.size + 2, 0, none⟩), .pointer (some ⟨Bx, 0, none⟩), .agg #[.int .u64 (m.at 0), .int .u64 (m.at 1), .int .u64 (m.at 2), .int .u64 (m.at 3), .int .u64 (m.at 4), .int .u64 (m.at 5), .int .u64 (m.at 6), .int .u64 (m.at 7)], .agg #[.int .u64 0, .int .u64 0, .int .u64 0, .int .u64 0, .int .u64 0, .int .u64 0, .int .u64 0, .int .u64 0], .bool false, .agg #[.int .u64 (m.at 0), .int .u64 (m.at 1), .int .u64 (m.at 2), .int .u64 (m.at 3), .int .u64 (m.at 4), .int .u64 (m.at 5), .int .u64 (m.at 6), .int .u64 (m.at 7)], .func (.func 64) #[] #[.pointer (some ⟨w.heap.size + 3, 0, none⟩)], .agg #[.int .i64 x.1, .int .i64 x.2], undef, undef, undef, undef], defers := [] })
    (fun x a' _ X Y row hs hg hr => by obtain ⟨Bx, h1, h2, h3⟩ := hs; exact ⟨Bx, h1, heap_own (β := Unit) Bx _ rfl () X Y row h2 hg (fun r e => (hr r e).2), h3⟩)
    ?assign ?body ?done ?stop
  case assign =>
    rintro l pre x W K ⟨⟨⟨rfl, f1⟩, f2⟩, hB1⟩ hK
    dsimp only [encS]
    have hs2 := block_lt f2
    gi_wp2
    refine hK _ _ ((KeepsOthers.alloc _ _).from _) (fun h => h.below ((Below.refl _ W).alloc (Nat.le_refl _) _)) ⟨⟨⟨by simp, ?_⟩, ?_⟩, hB1.alloc hB1.size _⟩ ⟨W.heap.size, hs2, World.alloc_heap_new W _, rfl⟩
    · exact (Below.heap_alloc _ _ _ (block_lt f1)).trans f1
    · exact (Below.heap_alloc _ _ _ (block_lt f2)).trans f2
  case body =>
    rintro l pre x a' W hl ⟨r, hr⟩ ⟨⟨⟨rfl, f1⟩, f2⟩, hB1⟩ ⟨Bx, hBx, bX, rfl⟩ hlt
    have c1 := cell_in f1 (i := 0) rfl
    have c2 := cell_in f2 (i := 0) rfl
    have z1 := frozen_in (i := 0) f1
    have z2 := frozen_in (i := 0) f2
    have x1 := cell_in bX (i := 0) rfl
    have x2 := cell_in bX (i := 1) rfl
    gi_wp2
    gi_region
    all_goals
      gi_wp2
      refine ⟨⟨(((KeepsOthers.setCell W ⟨w.heap.size + 1, 0, none⟩ (.int .i64 x.1)).trans (KeepsOthers.setCell _ ⟨w.heap.size + 2, 0, none⟩ (.int .i64 x.2))).from W0.heap.size).size, (((KeepsOthers.setCell W ⟨w.heap.size + 1, 0, none⟩ (.int .i64 x.1)).trans (KeepsOthers.setCell _ ⟨w.heap.size + 2, 0, none⟩ (.int .i64 x.2))).from W0.heap.size).same⟩, ⟨x, rfl, rfl, ?_, ?_⟩, Below.drew (below_set (below_set hB1 (p := ⟨w.heap.size + 1, 0, none⟩) (by simp) _) (p := ⟨w.heap.size + 2, 0, none⟩) (by simp) _)⟩
      · exact (Below.heap_setCell (W.setCell ⟨w.heap.size + 1, 0, none⟩ (.int .i64 x.1)) ⟨w.heap.size + 2, 0, none⟩ (.int .i64 x.2) _ (by simp)).trans (set_block f1 0 _)
      · exact set_block ((Below.heap_setCell _ _ _ _ (by simp)).trans f2) 0 _
  case done =>
    rintro D ys W hD hy ⟨⟨⟨rfl, f1⟩, f2⟩, hB1⟩ hK
    have hv := low0 hy
    have c1 := cell_in f1 (i := 0) rfl
    have c2 := cell_in f2 (i := 0) rfl
    have z1 := frozen_in (i := 0) f1
    have z2 := frozen_in (i := 0) f2
    gi_wp2
    rw [hv]
    obtain ⟨W2, hW2⟩ : ∃ W2, ((W.setCell ⟨w.heap.size + 1, 0, none⟩ (.int .i64 (-1))).setCell ⟨w.heap.size + 1 + 1, 0, none⟩ (.int .i64 (-1))) = W2 := ⟨_, rfl⟩
    have hK' : W2.heap[D]? = some (.deferred (some [])) := by
      rw [← hW2]
      exact (Below.heap_setCell _ _ _ _ (by simp; omega)).trans ((Below.heap_setCell _ _ _ _ (by simp; omega)).trans hK)
    have q1 : W2.cell? ⟨w.heap.size + 1, 0, none⟩ = some (.int .i64 (-1)) := by
      rw [← hW2, World.cell?_setCell_other _ _ _ _ (fun e => by simp at e), World.cell?_setCell_same' _ _ _ (by rw [c1]; rfl)]
    have q2 : W2.cell? ⟨w.heap.size + 1 + 1, 0, none⟩ = some (.int .i64 (-1)) := by
      rw [← hW2, World.cell?_setCell_same' _ _ _ (by rw [World.cell?_setCell_other _ _ _ _ (fun e => by simp at e), c2]; rfl)]
    have hB2 : Below w.heap.size w W2 := by
      rw [← hW2]
      exact below_set (below_set hB1 (by simp) _) (by simp; omega) _
    rw [hW2]
    refine ⟨by simp, .inl ⟨_, _, rfl, run_takeDeferred hK', ?_⟩⟩
    have r1 := cell_kept q1 (grownBy_putObj' _ D (.deferred none)) (fun r e => by cases e; exact ⟨_, hK', rfl⟩)
    have r2 := cell_kept q2 (grownBy_putObj' _ D (.deferred none)) (fun r e => by cases e; exact ⟨_, hK', rfl⟩)
    refine ⟨.tuple #[.int .i64 (-1), .int .i64 (-1)], ?_, rfl, hB2.trans (belowK_b (w := w) (Nat.le_refl _) W2 D _ _ (by omega) hK' rfl rfl)⟩
    simp [results, Tryd.f50, go_sem, r1, r2]
  case stop =>
    rintro D c pre W hD hpre ⟨⟨x, rfl, rfl, f1, f2⟩, hB1⟩ hK
    have hv := low1 x hpre
    have c1 := cell_in f1 (i := 0) rfl
    have c2 := cell_in f2 (i := 0) rfl
    gi_wp2
    rw [hv]
    refine ⟨by simp, .inl ⟨_, _, rfl, run_takeDeferred hK, ?_⟩⟩
    have r1 := cell_kept c1 (grownBy_putObj' _ D (.deferred none)) (fun r e => by cases e; exact ⟨_, hK, rfl⟩)
    have r2 := cell_kept c2 (grownBy_putObj' _ D (.deferred none)) (fun r e => by cases e; exact ⟨_, hK, rfl⟩)
    refine ⟨.tuple #[.int .i64 x.1, .int .i64 x.2], ?_, rfl, hB1.trans (belowK_b (w := w) (Nat.le_refl _) W D _ _ (by omega) hK rfl rfl)⟩
    simp [results, Tryd.f50, go_sem, r1, r2]
end Go.Proofs.YtnoafhfidecppaaDoor
