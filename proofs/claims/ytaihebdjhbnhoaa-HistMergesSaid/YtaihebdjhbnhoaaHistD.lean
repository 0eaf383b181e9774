/- A live histogram's answers. -/
import Derived.Test.YtaihebdjhbnhoaaHistC
import Derived.Test.YtaihebdjhbnhoaaPart
namespace Go.Proofs.Ytaihebdjhbnhoaa
open Go.RowKit
set_option linter.unusedVariables false
set_option linter.unusedSimpArgs false

theorem HistAt.part {w : World} {b : Nat} {h : Hs} (hA : HistAt w b h) : ∀ j v, (h.n.map (Value.int .i64))[j]? = some v → w.cell? ⟨b, 4 + j, none⟩ = some v := by
  intro j v hv
  rw [cell_of_row w b (4 + j) _ _ (0, 0) hA]
  unfold Hs.cells
  simp only [List.getElem?_toArray]
  rw [List.getElem?_append_right (by simp)]
  simpa using hv
theorem infoArr : (Try.prog.info? 74).map (·.size) = some 65 := by kernel_rfl
theorem load_n {w : World} {b : Nat} {h : Hs} (hA : HistAt w b h) (hl : h.n.length = 65) : (loadVar 74 ⟨b, 4, none⟩).run Try.prog w = .ok (.agg (h.n.map (Value.int .i64)).toArray) w :=
  run_loadVar_part w b 4 74 _ _ hA.part Try.underlying74 rfl (by rw [infoArr]; simp [hl])
theorem eq65 (l : List Int) (hl : l.length = 65) (w : World) : (binOp .eql 74 (.agg (l.map (Value.int .i64)).toArray) (.agg Try.zeroCells74)).run Try.prog w = .ok (.bool (l == List.replicate 65 0)) w := by
  have e : Try.zeroCells74 = ((List.replicate 65 (0 : Int)).map (Value.int .i64)).toArray := by kernel_rfl
  rw [e]
  obtain ⟨i, hi, hz⟩ : ∃ i, Try.prog.info? 3 = some i ∧ i.size = 1 := by
    have h : (Try.prog.info? 3).map (·.size) = some 1 := by kernel_rfl
    cases hq : Try.prog.info? 3 with
    | none => rw [hq] at h; cases h
    | some i => exact ⟨i, rfl, by rw [hq] at h; simpa using h⟩
  exact run_eql_array_int w 74 3 65 .i64 .i64 _ Try.underlying74 Try.underlying3 hi hz l _ hl (by simp)
set_option maxHeartbeats 4000000 in
set_option maxRecDepth 100000 in
theorem of_live (b : Nat) (h : Hs) (w : World) (hA : HistAt w b h) (hl : h.n.length = 65) (hz : (h.n == List.replicate 65 0) = false) : Calls Try.prog 47 #[.pointer (some ⟨b, 0, none⟩)] w fun e w' => e = .returned (.agg #[.int .i64 h.all.count, .int .u64 h.all.sum, .int .u64 h.all.least, .int .u64 h.all.most]) ∧ Below w.heap.size w w' := by
  have hL := HistAt.part (RowAt.alloc hA (.cells #[.int .i64 0, .int .u64 0, .int .u64 0, .int .u64 0] 73 (0, 0)))
  have hA2 := RowAt.alloc hA (.cells #[.int .i64 0, .int .u64 0, .int .u64 0, .int .u64 0] 73 (0, 0))
  have c0 : (w.alloc (.cells #[.int .i64 0, .int .u64 0, .int .u64 0, .int .u64 0] 73 (0, 0))).cell? ⟨b, 0, none⟩ = some (.int .i64 h.all.count) := RowAt.cell hA2 (i := 0) rfl
  have c1 : (w.alloc (.cells #[.int .i64 0, .int .u64 0, .int .u64 0, .int .u64 0] 73 (0, 0))).cell? ⟨b, 1, none⟩ = some (.int .u64 h.all.sum) := RowAt.cell hA2 (i := 1) rfl
  have c2 : (w.alloc (.cells #[.int .i64 0, .int .u64 0, .int .u64 0, .int .u64 0] 73 (0, 0))).cell? ⟨b, 2, none⟩ = some (.int .u64 h.all.least) := RowAt.cell hA2 (i := 2) rfl
  have c3 : (w.alloc (.cells #[.int .i64 0, .int .u64 0, .int .u64 0, .int .u64 0] 73 (0, 0))).cell? ⟨b, 3, none⟩ = some (.int .u64 h.all.most) := RowAt.cell hA2 (i := 3) rfl
  have hE := fun w => (eq65 h.n hl w).trans (by rw [hz])
  go_enter Try.func47, Try.ntmps47
  go_wp2_with (refine wpList_load_part_if rfl 74 (.tmp 8) rfl b 4 rfl _ _ hL Try.underlying74 rfl (by rw [infoArr]; simp [hl]) ?_)
  refine bodyPost_ret (v := .agg #[.int .i64 h.all.count, .int .u64 h.all.sum, .int .u64 h.all.least, .int .u64 h.all.most]) (by simp [results, Try.results47, go_sem]) rfl ?_
  exact ⟨rfl, by
               iterate 1 refine below_new ?_ _
               exact Below.refl _ _⟩
set_option maxHeartbeats 4000000 in
set_option maxRecDepth 100000 in
theorem of_zero (b : Nat) (h : Hs) (w : World) (hA : HistAt w b h) (hl : h.n.length = 65) (hz : (h.n == List.replicate 65 0) = true) : Calls Try.prog 47 #[.pointer (some ⟨b, 0, none⟩)] w fun e w' => e = .returned (.agg #[.int .i64 0, .int .u64 0, .int .u64 0, .int .u64 0]) ∧ Below w.heap.size w w' := by
  have hL := HistAt.part (RowAt.alloc hA (.cells #[.int .i64 0, .int .u64 0, .int .u64 0, .int .u64 0] 73 (0, 0)))
  have hA2 := RowAt.alloc hA (.cells #[.int .i64 0, .int .u64 0, .int .u64 0, .int .u64 0] 73 (0, 0))
  have c0 : (w.alloc (.cells #[.int .i64 0, .int .u64 0, .int .u64 0, .int .u64 0] 73 (0, 0))).cell? ⟨b, 0, none⟩ = some (.int .i64 h.all.count) := RowAt.cell hA2 (i := 0) rfl
  have c1 : (w.alloc (.cells #[.int .i64 0, .int .u64 0, .int .u64 0, .int .u64 0] 73 (0, 0))).cell? ⟨b, 1, none⟩ = some (.int .u64 h.all.sum) := RowAt.cell hA2 (i := 1) rfl
  have c2 : (w.alloc (.cells #[.int .i64 0, .int .u64 0, .int .u64 0, .int .u64 0] 73 (0, 0))).cell? ⟨b, 2, none⟩ = some (.int .u64 h.all.least) := RowAt.cell hA2 (i := 2) rfl
  have c3 : (w.alloc (.cells #[.int .i64 0, .int .u64 0, .int .u64 0, .int .u64 0] 73 (0, 0))).cell? ⟨b, 3, none⟩ = some (.int .u64 h.all.most) := RowAt.cell hA2 (i := 3) rfl
  have hE := fun w => (eq65 h.n hl w).trans (by rw [hz])
  go_enter Try.func47, Try.ntmps47
  go_wp2_with (refine wpList_load_part_if rfl 74 (.tmp 8) rfl b 4 rfl _ _ hL Try.underlying74 rfl (by rw [infoArr]; simp [hl]) ?_)
  refine bodyPost_ret (v := .agg #[.int .i64 0, .int .u64 0, .int .u64 0, .int .u64 0]) (by simp [results, Try.results47, go_sem]) rfl ?_
  exact ⟨rfl, by
               iterate 1 refine below_new ?_ _
               exact Below.refl _ _⟩
end Go.Proofs.Ytaihebdjhbnhoaa
