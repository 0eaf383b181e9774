/- The document's lines: Store. -/
import Derived.Test.YtaihebdjhbnhoaaDoorLnH
import Derived.Laws.ResultCell
namespace Go.Proofs.YtaihebdjhbnhoaaDoor
open Go.RowKit
set_option linter.unusedVariables false
set_option linter.unusedSimpArgs false

theorem results_row_tmp {P : Program} {fn : Func} {p u : Tmp} {ty : TypeId} (h : fn.results = #[.cell p ty, .tmp u]) (tmps : Array Value) (w : World) (g : Nat) (t : TypeId) (cs : Array Value) (fr : Nat × Nat) (d : TypeDesc)
    (hp : tmps.getD p undef = .pointer (some ⟨g, 0, none⟩)) (hg : w.heap[g]? = some (.cells cs t fr))
    (hu : P.underlying ty = some d) (hd : (match d with | .struct _ | .array _ _ => true | _ => false) = true) (hi : (P.info? ty).map (·.size) = some cs.size) (e : Value) (he : tmps.getD u undef = e) :
    (results fn tmps).run P w = .ok (.tuple #[.agg cs, e]) w := by
  rw [results_cell_tmp h, hp, he]
  simp [asAddr, run_loadVar_row w g t ty cs fr d hg hu hd hi]
def lzero : Array Value := bools (t32 (fun _ => false) ++ t32 fun _ => false)
theorem lrow_size (h m : Int) : (lrow h m).size = 64 := by rw [lrow, bools_size, ll_len]
theorem lzero_size : lzero.size = 64 := by rw [lzero, bools_size, List.length_append, t32_len]
theorem info64 (h m : Int) : (Tryd.prog.info? 39).map (·.size) = some (lrow h m).size := by rw [lrow_size]; kernel_rfl
theorem lrow_one (h m : Int) : (lrow h m).all (·.oneCell') = true := bools_one _
/-- The mask's part is written. -/
theorem mask_set (h m v : Int) : (((ll h m).map Value.bool).take 32 ++ (t32 (bitI v)).map Value.bool ++ ((ll h m).map Value.bool).drop (32 + ((t32 (bitI v)).map Value.bool).length)).toArray = lrow h v := by
  have l1 : ((t32 (bitI h)).map Value.bool).length = 32 := by rw [List.length_map, t32_len]
  have l2 : ((t32 (bitI m)).map Value.bool).length = 32 := by rw [List.length_map, t32_len]
  have l3 : ((t32 (bitI v)).map Value.bool).length = 32 := by rw [List.length_map, t32_len]
  unfold lrow bools ll
  rw [List.map_append, List.map_append, l3, List.take_append, l1, List.take_of_length_le (by omega), List.drop_eq_nil_of_le (by rw [List.length_append]; omega)]
  simp
/-- The lines' part is written. -/
theorem high_set (h m v : Int) : (((ll h m).map Value.bool).take 0 ++ (t32 (bitI v)).map Value.bool ++ ((ll h m).map Value.bool).drop (0 + ((t32 (bitI v)).map Value.bool).length)).toArray = lrow v m := by
  have l1 : ((t32 (bitI h)).map Value.bool).length = 32 := by rw [List.length_map, t32_len]
  have l3 : ((t32 (bitI v)).map Value.bool).length = 32 := by rw [List.length_map, t32_len]
  unfold lrow bools ll
  rw [List.map_append, List.map_append, l3, Nat.zero_add, List.drop_append, l1, List.drop_eq_nil_of_le (by omega)]
  simp
theorem bool_cells (f : Nat → Bool) : ∀ v ∈ (t32 f).map Value.bool, v.oneCell' = true := by
  intro v hv
  obtain ⟨b, _, rfl⟩ := List.mem_map.1 hv
  rfl
theorem rload_is (h m off : Int) (w : World) (h0 : 0 ≤ h) (h1 : h ≤ 4294967295) (m0 : 0 ≤ m) (m1 : m ≤ 4294967295) (u0 : 0 ≤ off) (u1 : off ≤ 4294967295) {x er : Int} (hl : loadL h m off = (x, er)) : Calls Tryd.prog 15 #[.agg (lrow h m), .int .u32 off] w fun e w' => e = .returned (.tuple #[.int .u32 x, .int .i64 er]) ∧ Below w.heap.size w w' := by
  have q := rload_any h m off w h0 h1 m0 m1 u0 u1
  rw [hl] at q
  exact q
set_option maxHeartbeats 8000000 in
set_option maxRecDepth 100000 in
theorem rstore_err (h m off v : Int) (w : World) (h0 : 0 ≤ h) (h1 : h ≤ 4294967295) (m0 : 0 ≤ m) (m1 : m ≤ 4294967295) (u0 : 0 ≤ off) (u1 : off ≤ 4294967295) (v0 : 0 ≤ v) (v1 : v ≤ 4294967295) (x : Int) (er : Int) (hl : loadL h m off = (x, er)) (hne : er ≠ 0) :
    Calls Tryd.prog 16 #[.agg (lrow h m), .int .u32 off, .int .u32 v] w fun e w' => e = .returned (.tuple #[.agg (lrow h m), .int .i64 er]) ∧ Below w.heap.size w w' := by
  have HE := Lib.hid hl
  have g0 : (er == 0) = false := beq_f hne
  clear hl hne
  go_enter Tryd.func16, Tryd.ntmps16
  go_upto_region 1 with (fail)
  refine wp_box2 ?_
  intro W hB b0 b1 hW
  have R0 : RowAt W w.heap.size (lrow h m) 39 := b0
  have R1 : RowAt W (w.heap.size + 1) lzero 39 := b1
  have HR0 := Lib.hid R0
  have HR1 := Lib.hid R1
  have HB := Lib.hid hB
  clear b0 b1 R0 R1 hB
  go_upto_region 2 with (first | (refine wpList_load_row rfl 39 (.tmp 3) rfl w.heap.size rfl 39 (lrow h m) (0, 0) _ HR0.out Tryd.underlying39 rfl (info64 _ _) ?_) | (go_at_call 15; refine (rload_is h m off _ h0 h1 m0 m1 u0 u1 HE.out).mono ?_; rintro e w1 ⟨rfl, hb1⟩; have q0 := RowAt.ext HR0.out hb1; have q1 := RowAt.ext HR1.out hb1; have qb := below_then HB.out hb1))
  refine wp_name (Pr := fun W' => RowAt W' w.heap.size (lrow h m) 39 ∧ RowAt W' (w.heap.size + 1) lzero 39 ∧ Below w.heap.size w W') ⟨q0, q1, qb⟩ ?_
  clear q0 q1 qb hb1 HB HR0 HR1
  rintro W5 ⟨r0, r1, hB⟩
  have HR0 := Lib.hid r0
  have HR1 := Lib.hid r1
  have HB := Lib.hid hB
  clear r0 r1 hB
  go_wp2_with (first | (refine wpList_load_row rfl 39 (.tmp 3) rfl w.heap.size rfl 39 (lrow h m) (0, 0) _ HR0.out Tryd.underlying39 rfl (info64 _ _) ?_) | (refine wpList_store_row rfl 39 (.tmp 6) (.tmp 27) rfl (w.heap.size + 1) (lrow h m) rfl rfl 39 _ HR1.out (info64 _ _) (by rw [lzero_size, lrow_size]) (lrow_one _ _) ?_))
  refine bodyPost_ret (v := .tuple #[.agg (lrow h m), .int .i64 er]) (results_row_tmp (P := Tryd.prog) rfl _ _ (w.heap.size + 1) 39 (lrow h m) (0, 0) _ rfl (RowAt.setRow HR1.out _) Tryd.underlying39 rfl (info64 _ _) (.int .i64 er) rfl) rfl ⟨rfl, below_setRow HB.out (by omega) _⟩
set_option maxHeartbeats 8000000 in
set_option maxRecDepth 100000 in
theorem rstore_fix (h m off v : Int) (w : World) (h0 : 0 ≤ h) (h1 : h ≤ 4294967295) (m0 : 0 ≤ m) (m1 : m ≤ 4294967295) (u0 : 0 ≤ off) (u1 : off ≤ 4294967295) (v0 : 0 ≤ v) (v1 : v ≤ 4294967295) (x : Int) (hl : loadL h m off = (x, 0)) (hne : off ≠ 4) :
    Calls Tryd.prog 16 #[.agg (lrow h m), .int .u32 off, .int .u32 v] w fun e w' => e = .returned (.tuple #[.agg (lrow h m), .int .i64 12]) ∧ Below w.heap.size w w' := by
  have HE := Lib.hid hl
  have g0 : (off != 4) = true := bne_t hne
  clear hl hne
  go_enter Tryd.func16, Tryd.ntmps16
  go_upto_region 1 with (fail)
  refine wp_box2 ?_
  intro W hB b0 b1 hW
  have R0 : RowAt W w.heap.size (lrow h m) 39 := b0
  have R1 : RowAt W (w.heap.size + 1) lzero 39 := b1
  have HR0 := Lib.hid R0
  have HR1 := Lib.hid R1
  have HB := Lib.hid hB
  clear b0 b1 R0 R1 hB
  go_upto_region 2 with (first | (refine wpList_load_row rfl 39 (.tmp 3) rfl w.heap.size rfl 39 (lrow h m) (0, 0) _ HR0.out Tryd.underlying39 rfl (info64 _ _) ?_) | (go_at_call 15; refine (rload_is h m off _ h0 h1 m0 m1 u0 u1 HE.out).mono ?_; rintro e w1 ⟨rfl, hb1⟩; have q0 := RowAt.ext HR0.out hb1; have q1 := RowAt.ext HR1.out hb1; have qb := below_then HB.out hb1))
  refine wp_name (Pr := fun W' => RowAt W' w.heap.size (lrow h m) 39 ∧ RowAt W' (w.heap.size + 1) lzero 39 ∧ Below w.heap.size w W') ⟨q0, q1, qb⟩ ?_
  clear q0 q1 qb hb1 HB HR0 HR1
  rintro W5 ⟨r0, r1, hB⟩
  have HR0 := Lib.hid r0
  have HR1 := Lib.hid r1
  have HB := Lib.hid hB
  clear r0 r1 hB
  go_wp2_with (first | (refine wpList_load_row rfl 39 (.tmp 3) rfl w.heap.size rfl 39 (lrow h m) (0, 0) _ HR0.out Tryd.underlying39 rfl (info64 _ _) ?_) | (refine wpList_store_row rfl 39 (.tmp 6) (.tmp 27) rfl (w.heap.size + 1) (lrow h m) rfl rfl 39 _ HR1.out (info64 _ _) (by rw [lzero_size, lrow_size]) (lrow_one _ _) ?_))
  refine bodyPost_ret (v := .tuple #[.agg (lrow h m), .int .i64 12]) (results_row_tmp (P := Tryd.prog) rfl _ _ (w.heap.size + 1) 39 (lrow h m) (0, 0) _ rfl (RowAt.setRow HR1.out _) Tryd.underlying39 rfl (info64 _ _) (.int .i64 12) rfl) rfl ⟨rfl, below_setRow HB.out (by omega) _⟩
set_option maxHeartbeats 8000000 in
set_option maxRecDepth 100000 in
theorem rstore_mask (h m v : Int) (w : World) (h0 : 0 ≤ h) (h1 : h ≤ 4294967295) (m0 : 0 ≤ m) (m1 : m ≤ 4294967295) (v0 : 0 ≤ v) (v1 : v ≤ 4294967295) (x : Int) (hl : loadL h m 4 = (x, 0)) :
    Calls Tryd.prog 16 #[.agg (lrow h m), .int .u32 4, .int .u32 v] w fun e w' => e = .returned (.tuple #[.agg (lrow h v), .int .i64 0]) ∧ Below w.heap.size w w' := by
  have HE := Lib.hid hl
  clear hl
  go_enter Tryd.func16, Tryd.ntmps16
  go_upto_region 1 with (fail)
  refine wp_box2 ?_
  intro W hB b0 b1 hW
  have R0 : RowAt W w.heap.size (lrow h m) 39 := b0
  have R1 : RowAt W (w.heap.size + 1) lzero 39 := b1
  have HR0 := Lib.hid R0
  have HR1 := Lib.hid R1
  have HB := Lib.hid hB
  clear b0 b1 R0 R1 hB
  go_upto_region 2 with (first | (refine wpList_load_row rfl 39 (.tmp 3) rfl w.heap.size rfl 39 (lrow h m) (0, 0) _ HR0.out Tryd.underlying39 rfl (info64 _ _) ?_) | (go_at_call 15; refine (rload_is h m 4 _ h0 h1 m0 m1 (by decide) (by decide) HE.out).mono ?_; rintro e w1 ⟨rfl, hb1⟩; have q0 := RowAt.ext HR0.out hb1; have q1 := RowAt.ext HR1.out hb1; have qb := below_then HB.out hb1))
  refine wp_name (Pr := fun W' => RowAt W' w.heap.size (lrow h m) 39 ∧ RowAt W' (w.heap.size + 1) lzero 39 ∧ Below w.heap.size w W') ⟨q0, q1, qb⟩ ?_
  clear q0 q1 qb hb1 HB HR0 HR1
  rintro W5 ⟨r0, r1, hB⟩
  have HR0 := Lib.hid r0
  have HR1 := Lib.hid r1
  have HB := Lib.hid hB
  clear r0 r1 hB
  go_upto_region 6 with (first | (go_at_call 14; refine (rbits_any v _ v0 v1).mono ?_; rintro e w2 ⟨rfl, hb2⟩; have q0 : RowAt w2 w.heap.size (((ll h m).map Value.bool).toArray) 39 := RowAt.ext HR0.out hb2; have q1 := RowAt.ext HR1.out hb2; have qb := below_then HB.out hb2; have HQ0 := Lib.hid q0; clear q0) | (refine wpList_store_part rfl 37 (.tmp 26) (.tmp 25) rfl w.heap.size 32 ((t32 (bitI v)).map Value.bool) rfl rfl 39 ((ll h m).map Value.bool) HQ0.out (info32' _) (by rw [List.length_map, List.length_map, t32_len, ll_len]; decide) (bool_cells _) ?_; rw [mask_set]))
  refine wp_name (Pr := fun W' => RowAt W' w.heap.size (lrow h v) 39 ∧ RowAt W' (w.heap.size + 1) lzero 39 ∧ Below w.heap.size w W') ⟨RowAt.setRow HQ0.out _, RowAt.setRow_other q1 (by omega) _, below_setRow qb (Nat.le_refl _) _⟩ ?_
  clear q1 qb HQ0 hb2 HB HR0 HR1
  rintro W6 ⟨r0, r1, hB⟩
  have HR0 := Lib.hid r0
  have HR1 := Lib.hid r1
  have HB := Lib.hid hB
  clear r0 r1 hB
  go_wp2_with (first | (refine wpList_load_row rfl 39 (.tmp 3) rfl w.heap.size rfl 39 (lrow h v) (0, 0) _ HR0.out Tryd.underlying39 rfl (info64 _ _) ?_) | (refine wpList_store_row rfl 39 (.tmp 6) (.tmp 27) rfl (w.heap.size + 1) (lrow h v) rfl rfl 39 _ HR1.out (info64 _ _) (by rw [lzero_size, lrow_size]) (lrow_one _ _) ?_))
  refine bodyPost_ret (v := .tuple #[.agg (lrow h v), .int .i64 0]) (results_row_tmp (P := Tryd.prog) rfl _ _ (w.heap.size + 1) 39 (lrow h v) (0, 0) _ rfl (RowAt.setRow HR1.out _) Tryd.underlying39 rfl (info64 _ _) (.int .i64 0) rfl) rfl ⟨rfl, below_setRow HB.out (by omega) _⟩
theorem rstore_any (h m off v : Int) (w : World) (h0 : 0 ≤ h) (h1 : h ≤ 4294967295) (m0 : 0 ≤ m) (m1 : m ≤ 4294967295) (u0 : 0 ≤ off) (u1 : off ≤ 4294967295) (v0 : 0 ≤ v) (v1 : v ≤ 4294967295) : Calls Tryd.prog 16 #[.agg (lrow h m), .int .u32 off, .int .u32 v] w fun e w' => e = .returned (.tuple #[.agg (lrow h (storeL m off v).1), .int .i64 (storeL m off v).2]) ∧ Below w.heap.size w w' := by
  unfold storeL
  by_cases o0 : off = 0
  · rw [if_pos o0]
    exact rstore_fix h m off v w h0 h1 m0 m1 u0 u1 v0 v1 h (by unfold loadL; rw [if_pos o0]) (by omega)
  · rw [if_neg o0]
    by_cases o4 : off = 4
    · subst o4
      exact rstore_mask h m v w h0 h1 m0 m1 v0 v1 m (by rfl)
    · rw [if_neg o4]
      by_cases o8 : off = 8
      · rw [if_pos o8]
        exact rstore_fix h m off v w h0 h1 m0 m1 u0 u1 v0 v1 (bits .and .u32 h m) (by unfold loadL; rw [if_neg o0, if_neg o4, if_pos o8]) (by omega)
      · rw [if_neg o8]
        by_cases om : off % 4 ≠ 0
        · rw [if_pos om]
          exact rstore_err h m off v w h0 h1 m0 m1 u0 u1 v0 v1 0 11 (by unfold loadL; rw [if_neg o0, if_neg o4, if_neg o8, if_pos om]) (by decide)
        · rw [if_neg om]
          exact rstore_err h m off v w h0 h1 m0 m1 u0 u1 v0 v1 0 10 (by unfold loadL; rw [if_neg o0, if_neg o4, if_neg o8, if_neg om]) (by decide)
end Go.Proofs.YtaihebdjhbnhoaaDoor
