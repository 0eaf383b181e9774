/- slices.Collect over the iterator of slots; All. -/
import Derived.Test.YtnoafhfidecppaaDoorOccF
import Derived.RangeFuncBox
import Derived.OwnWalkIn
import Derived.Maps.AppendAt
import Derived.Test.YtnoafhfidecppaaDoorRowat
namespace Go.Proofs.YtnoafhfidecppaaDoor
open Go.RowKit Go.Shelf
set_option linter.unusedVariables false
set_option linter.unusedSimpArgs false
attribute [local go_sem] Oper.semAt_some
def pc (p : Nat × Nat) : List Value := [.int .i64 p.1, .int .i64 p.2]
theorem info61 : (Tryd.prog.info? 61).map (fun i => (i.zero, i.size, i.bytes)) = some (some (.agg #[.int .i64 0, .int .i64 0]), 2, 16) := by kernel_rfl
theorem Holds.low {m : Map8} {B n : Nat} {W W' : World} (h : Holds m B W) (hb : Below n W W') (hB : B < n) (hg : 0 < n) : Holds m B W' :=
  ⟨fun j hj => (hb.cell (p := ⟨0, j, none⟩) hg).trans (h.1 j hj), fun i hi => (hb.cell (p := ⟨B, i, none⟩) hB).trans (h.2 i hi)⟩
theorem Holds.lt {m : Map8} {B : Nat} {W : World} (h : Holds m B W) : B < W.heap.size := block_lt_cell (h.2 0 (by omega))
theorem Holds.tab {m : Map8} {B : Nat} {W : World} (h : Holds m B W) : 0 < W.heap.size := block_lt_cell (h.1 0 (by decide))
theorem cells_new (W : World) (a b : Value) (t : TypeId) : ∀ j u, [a, b][j]? = some u → (W.alloc (.cells #[a, b] t)).cell? ((⟨W.heap.size, 0, none⟩ : Addr).add j) = some u := by
  intro j u hj
  have h := heap_alloc_new W (.cells #[a, b] t)
  have e : (⟨W.heap.size, 0, none⟩ : Addr).add j = ⟨W.heap.size, j, none⟩ := by unfold Addr.add; split <;> simp_all
  rw [e]
  exact cell_in h (by simpa using hj)
set_option maxHeartbeats 8000000 in
set_option maxRecDepth 100000 in
theorem appseq_any (m : Map8) (B : Nat) (w : World) (hH : Holds m B w) :
    Calls Tryd.prog 63 #[.slice none 0 0, .func (.func 64) #[] #[.pointer (some ⟨B, 0, none⟩)]] w fun e w' => ∃ v, e = .returned v ∧ w'.ownsRow w.heap.size 61 2 v (allI m).length ((allI m).flatMap pc) ∧ Below w.heap.size w w' := by
  have hlen := allI_length m
  have hBl := hH.lt
  have hTl := hH.tab
  obtain ⟨i0, hi, hz0, hz1, hz2⟩ := info_parts info61
  refine (callsIn_wide (n := 5)).1 ?_
  refine callsIn_of_wp_marks Tryd.func63 rfl trivial ?_ rfl
  simp only [Tryd.ntmps63, List.size_toArray, List.length_cons, List.length_nil, Nat.reduceAdd, Nat.reduceSub, Array.replicate_succ, Array.replicate_zero, List.push_toArray, List.append_toArray, List.nil_append, List.cons_append]
  gi_wp2
  have bO := Boxed.new w 55 (.slice none 0 0)
  have hB0 : Below w.heap.size w (w.alloc (.cells #[.slice none 0 0] 55)) := below_new (Below.refl _ _) _
  refine wpIn_rangeFunc_ownH rfl (by omega) (gf := 64) (lb := #[.pointer (some ⟨B, 0, none⟩)]) rfl trivial (enters_of Tryd.func64 (by kernel_rfl) rfl)
    (each_stops m _ B (by omega) _ (hH.below hB0)) (fun h k x => k (h x)) (fun W l o o' _ hl hc _ h => h.put l o o' hl hc) (Below.refl _ _) (fun _ => rfl)
    (fun pre W => (∃ v, Boxed W w.heap.size 55 v ∧ W.ownsRow w.heap.size 61 2 v pre.length (pre.flatMap pc) ∧ True) ∧ Below w.heap.size w W)
    (fun _ _ _ => False)
    (OwnFrom.and (Own.from (holdsRow_own w.heap.size w.heap.size 55 61 2 (fun pre : List (Nat × Nat) => pre.length) (fun pre => pre.flatMap pc) (fun _ _ => True)) _) (ownFrom_below (Nat.le_refl _) (by simp)))
    (fun _ _ _ _ _ hs _ _ => hs)
    ⟨⟨_, bO, ⟨by simp, .inl ⟨rfl, rfl⟩⟩, trivial⟩, hB0⟩
    (fun x a' W => ∃ Bx, w.heap.size < Bx ∧ W.heap[Bx]? = some (.cells #[.int .i64 x.1, .int .i64 x.2] 61) ∧ a' = { tmps := #[.slice none 0 0, .func (.func 64) #[] #[.pointer (some ⟨B, 0, none⟩)], .pointer (some ⟨w.heap.size, 0, none⟩), undef, .slice none 0 0, .pointer (some ⟨Bx, 0, none⟩), .func (.func 64) #[] #[.pointer (some ⟨B, 0, none⟩)], .agg #[.int .i64 x.1, .int .i64 x.2], undef, undef, undef, undef, undef], defers := [] })
    (fun x a' _ X Y row hs hg hr => by obtain ⟨Bx, h1, h2, h3⟩ := hs; exact ⟨Bx, h1, heap_own (β := Unit) Bx _ rfl () X Y row h2 hg (fun r e => (hr r e).2), h3⟩)
    ?assign ?body ?done ?stop
  case assign =>
    rintro l pre x W K ⟨⟨v, hv, hrow, -⟩, hBw⟩ hK
    have hs2 := hv.lt
    dsimp only [encS]
    gi_wp2
    refine hK _ _ ((KeepsOthers.alloc _ _).from _) (fun h => h.below ((Below.refl _ W).alloc (Nat.le_refl _) _)) ⟨⟨v, hv.alloc _, hrow.alloc _, trivial⟩, hBw.alloc hBw.size _⟩ ⟨W.heap.size, hs2, World.alloc_heap_new W _, rfl⟩
  case body =>
    rintro l pre x a' W hl ⟨r, hr⟩ ⟨⟨v, hv, hrow, -⟩, hBw⟩ ⟨Bx, hBx, bX, rfl⟩ hlt
    have hc := hv.cell
    have hf := hv.frozen
    have x1 := cell_in bX (i := 0) rfl
    have x2 := cell_in bX (i := 1) rfl
    gi_wp2_with (gi_at_builtin; refine wpListIn_append_own _ rfl _ _ 55 rfl w.heap.size 61 i0 (.agg #[.int .i64 0, .int .i64 0]) 2 16 Tryd.underlying55 hi hz0 hz1 hz2 rfl (by decide) _ _ _ rfl (hrow.alloc _) ⟨W.heap.size, 0, none⟩ 1 1 (pc x) rfl rfl (cells_new _ _ _ _) (by simp [Value.oneCell', pc]) (have h5 : (512 : Nat) ≤ maxLen := (by unfold maxLen; omega); by omega) (by omega) (by have := hBw.size; simp; omega) ?_; intro v' w1 hown' hgrow _; obtain ⟨g', cap', rfl⟩ := ownsRow_succ hown'; obtain ⟨hv1, hv2, hr2, hk2, hb2⟩ := hv.appended (by decide) hrow hBw.size (Nat.le_refl _) hown' hgrow; have hc1 := hv1.cell; have hf1 := hv1.frozen)
    refine ⟨hk2.from _, fun h => h.low hb2 hBl hTl, ⟨_, hv2, by simpa using hr2, trivial⟩, hBw.trans hb2⟩
  case done =>
    rintro D ys W hD hy ⟨⟨v, hv, hrow, -⟩, hBw⟩ hK
    subst hy
    have hc := hv.cell
    have hf := hv.frozen
    gi_wp2
    refine ⟨by simp, .inl ⟨_, _, rfl, run_takeDeferred hK, ?_⟩⟩
    exact ⟨_, results_tmp rfl _ _ _, v, rfl, ownsRow_putObj hrow _ hK rfl, hBw.trans (belowK_b (w := w) (Nat.le_refl _) W D _ _ (by simp at hD; omega) hK rfl rfl)⟩
  case stop =>
    rintro D c pre W _ _ h _
    exact h.elim
end Go.Proofs.YtnoafhfidecppaaDoor
