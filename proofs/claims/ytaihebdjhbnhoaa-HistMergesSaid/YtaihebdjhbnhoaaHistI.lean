/- Copy and Merge of a live histogram. -/
import Derived.Test.YtaihebdjhbnhoaaHistG
namespace Go.Proofs.Ytaihebdjhbnhoaa
open Go.RowKit
set_option linter.unusedVariables false
set_option linter.unusedSimpArgs false

theorem parts2 (s0 s1 s2 s3 : Value) (l : List Int) (hl : l.length = 65) : LaidAt (fun x => ([(0, 4), (4, 65)] : List (Nat × Nat)).toArray[x]?) [.agg #[s0, s1, s2, s3], .agg (l.map (Value.int .i64)).toArray] 0 0 := by
  refine ⟨rfl, ?_, trivial⟩
  simp [Value.cells, hl]
set_option maxHeartbeats 8000000 in
set_option maxRecDepth 100000 in
theorem copy_any (b : Nat) (L : List Int) (w : World) (hA : HistAt w b (HsOf L)) :
    Calls Try.prog 19 #[.pointer (some ⟨b, 0, none⟩)] w fun e w' => ∃ b', e = .returned (.pointer (some ⟨b', 0, none⟩)) ∧ w.heap.size ≤ b' ∧ HistAt w' b' (HsOf L) ∧ Below w.heap.size w w' := by
  have hP := fun x : Ext w.heap.size w => HistAt.part (HistAt.ext hA x.ok)
  obtain ⟨hk, hf⟩ := Ext.cells hA
  have k0 : ∀ x : Ext w.heap.size w, x.world.cell? ⟨b, 0, none⟩ = some (.int .i64 (sumsL L).count) := fun x => (hk x 0)
  have k1 : ∀ x : Ext w.heap.size w, x.world.cell? ⟨b, 1, none⟩ = some (.int .u64 (sumsL L).sum) := fun x => (hk x 1)
  have k2 : ∀ x : Ext w.heap.size w, x.world.cell? ⟨b, 2, none⟩ = some (.int .u64 (sumsL L).least) := fun x => (hk x 2)
  have k3 : ∀ x : Ext w.heap.size w, x.world.cell? ⟨b, 3, none⟩ = some (.int .u64 (sumsL L).most) := fun x => (hk x 3)
  have HP := Lib.hid hP
  clear hk hP
  go_enter Try.func19, Try.ntmps19
  refine wp_start (w := w) ?_
  intro x
  go_wp2_with fail
  refine wp_region_ext_tail _ 9 (by kernel_rfl) (by kernel_rfl) (by kernel_rfl) ?_
  simp only [List.take_succ_cons, List.take_zero, List.drop_succ_cons, List.drop_zero]
  iterate 7 (go_big_quiet_step (fail))
  refine wpQuiet_load_part rfl 74 (.tmp 11) rfl b 4 rfl _ _ (by rintro _ ⟨y, rfl⟩; exact HP.out y) Try.underlying74 rfl (by rw [infoArr]; simp [HsOf_len]) ?_
  simp only [Act.put, List.setIfInBounds_toArray, List.set_cons_succ, List.set_cons_zero]
  refine wpQuiet_build_parts rfl 76 #[(0, .tmp 8), (1, .tmp 12)] rfl [.agg #[.int .i64 (sumsL L).count, .int .u64 (sumsL L).sum, .int .u64 (sumsL L).least, .int .u64 (sumsL L).most], .agg ((HsOf L).n.map (Value.int .i64)).toArray] rfl Hs.none.cells [(0, 4), (4, 65)] (by kernel_rfl) (by kernel_rfl) (parts2 _ _ _ _ _ (HsOf_len L)) (by simp [flatV, Value.cells, Hs.cells, Hs.none, HsOf_len]) ?_
  simp only [Act.put, List.setIfInBounds_toArray, List.set_cons_succ, List.set_cons_zero]
  refine wpQuiet_nil ?_
  rintro _ ⟨y, rfl⟩
  go_wp2_with fail
  go_ret
  have hn := RowAt.new y.world (flatV [.agg #[.int .i64 (sumsL L).count, .int .u64 (sumsL L).sum, .int .u64 (sumsL L).least, .int .u64 (sumsL L).most], .agg ((HsOf L).n.map (Value.int .i64)).toArray]).toArray 76
  have e : (flatV [.agg #[.int .i64 (sumsL L).count, .int .u64 (sumsL L).sum, .int .u64 (sumsL L).least, .int .u64 (sumsL L).most], .agg ((HsOf L).n.map (Value.int .i64)).toArray]).toArray = (HsOf L).cells := by
    simp [flatV, Value.cells, Hs.cells, HsOf]
  rw [e] at hn
  exact ⟨y.world.heap.size, rfl, y.ok.size, by have q := hn; unfold HistAt; simpa [e] using q, by simpa [e] using below_new y.ok _⟩
/-- The buckets while one histogram is merged into another one. -/
def mixL (L M : List Int) (k : Nat) : List Int := (List.range 65).map fun j => if j < k then cntL (L ++ M) j else cntL L j
theorem mixL_length (L M : List Int) (k : Nat) : (mixL L M k).length = 65 := by simp [mixL]
theorem mixL_zero (L M : List Int) : mixL L M 0 = bucketsL L := by simp [mixL, bucketsL]
theorem mixL_all (L M : List Int) : mixL L M 65 = bucketsL (L ++ M) := by
  unfold mixL bucketsL
  apply List.map_congr_left
  intro j hj
  rw [if_pos (by simpa using hj)]
theorem mixL_get (L M : List Int) {k : Nat} (hk : k < 65) : (mixL L M k)[k]? = some (cntL L k) := by simp [mixL, hk]
theorem mixL_step (L M : List Int) {k : Nat} (hk : k < 65) : (mixL L M k).set k (cntL L k + cntL M k) = mixL L M (k + 1) := by
  apply List.ext_getElem?
  intro i
  rw [List.getElem?_set, mixL_length]
  rcases Nat.lt_or_ge i 65 with hi | hi
  · by_cases e : k = i
    · subst e
      simp [mixL, hi, cntL_append]
    · simp only [mixL, e, if_false, List.getElem?_map, List.getElem?_range hi, Option.map_some]
      congr 1
      by_cases q : i < k
      · rw [if_pos q, if_pos (by omega)]
      · rw [if_neg q, if_neg (by omega)]
  · rw [List.getElem?_eq_none (by rw [mixL_length]; omega), List.getElem?_eq_none (by rw [mixL_length]; omega), if_neg (by omega)]
theorem hs_bucket {s : Sums} {n : List Int} {k : Nat} {v : Int} (h : n[k]? = some v) : (⟨s, n⟩ : Hs).cells[4 + k]? = some (.int .i64 v) := by
  unfold Hs.cells
  rw [List.getElem?_toArray, List.getElem?_append_right (by simp)]
  simp [h]
set_option maxHeartbeats 8000000 in
set_option maxRecDepth 100000 in
theorem merge_any (b b2 : Nat) (L M : List Int) (w : World) (hA : HistAt w b (HsOf L)) (hA2 : HistAt w b2 (HsOf M)) (hL : GoodL L) (hM : GoodL M) (hn : L.length + M.length ≤ 4611686018427387904) :
    Calls Try.prog 22 #[.pointer (some ⟨b, 0, none⟩), .pointer (some ⟨b2, 0, none⟩)] w fun e w' => e = .returned (.tuple #[]) ∧ HistAt w' b (HsOf (L ++ M)) ∧ But b w w' := by
  have HW := Lib.hid (fun w => with_L L M hL hM hn w)
  obtain ⟨hk, hf⟩ := Ext.cells hA
  have k0 : ∀ x : Ext w.heap.size w, x.world.cell? ⟨b, 0, none⟩ = some (.int .i64 (sumsL L).count) := fun x => (hk x 0)
  have k1 : ∀ x : Ext w.heap.size w, x.world.cell? ⟨b, 1, none⟩ = some (.int .u64 (sumsL L).sum) := fun x => (hk x 1)
  have k2 : ∀ x : Ext w.heap.size w, x.world.cell? ⟨b, 2, none⟩ = some (.int .u64 (sumsL L).least) := fun x => (hk x 2)
  have k3 : ∀ x : Ext w.heap.size w, x.world.cell? ⟨b, 3, none⟩ = some (.int .u64 (sumsL L).most) := fun x => (hk x 3)
  obtain ⟨hj, hg⟩ := Ext.cells hA2
  have j0 : ∀ x : Ext w.heap.size w, x.world.cell? ⟨b2, 0, none⟩ = some (.int .i64 (sumsL M).count) := fun x => (hj x 0)
  have j1 : ∀ x : Ext w.heap.size w, x.world.cell? ⟨b2, 1, none⟩ = some (.int .u64 (sumsL M).sum) := fun x => (hj x 1)
  have j2 : ∀ x : Ext w.heap.size w, x.world.cell? ⟨b2, 2, none⟩ = some (.int .u64 (sumsL M).least) := fun x => (hj x 2)
  have j3 : ∀ x : Ext w.heap.size w, x.world.cell? ⟨b2, 3, none⟩ = some (.int .u64 (sumsL M).most) := fun x => (hj x 3)
  have HN : Hid (∀ k, 0 ≤ cntL L k ∧ 0 ≤ cntL M k ∧ cntL L k + cntL M k ≤ 4611686018427387904) := fun k => by
    have := cntL_in L k
    have := cntL_in M k
    omega
  clear hk hj hn hg
  go_enter Try.func22, Try.ntmps22
  refine wp_start (w := w) ?_
  intro x
  go_wp2_with fail
  refine wp_region_ext_tail _ 12 (by kernel_rfl) (by kernel_rfl) (by kernel_rfl) ?_
  simp only [List.take_succ_cons, List.take_zero, List.drop_succ_cons, List.drop_zero]
  repeat (go_big_quiet_step (first | (go_at_call 46; exact Ext.call (HW.out _))))
  refine wpQuiet_nil ?_
  rintro _ ⟨y, rfl⟩
  go_upto_region 2 with (fail)
  have hA1 := HistAt.ext hA y.ok
  have hA21 := HistAt.ext hA2 y.ok
  have R4 := hA1.set4 (sumsL (L ++ M))
  have B4 := (((((but_of y.ok b).set 0 (.int .i64 (sumsL (L ++ M)).count)).set 1 (.int .u64 (sumsL (L ++ M)).sum)).set 2 (.int .u64 (sumsL (L ++ M)).least)).set 3 (.int .u64 (sumsL (L ++ M)).most))
  have P4 : ∀ j v, ((bucketsL M).map (Value.int .i64))[j]? = some v → ((((y.world.setCell ⟨b, 0, none⟩ (.int .i64 (sumsL (L ++ M)).count)).setCell ⟨b, 1, none⟩ (.int .u64 (sumsL (L ++ M)).sum)).setCell ⟨b, 2, none⟩ (.int .u64 (sumsL (L ++ M)).least)).setCell ⟨b, 3, none⟩ (.int .u64 (sumsL (L ++ M)).most)).cell? ⟨b2, 4 + j, none⟩ = some v := by
    by_cases hb : b2 = b
    · subst hb
      have e : (HsOf L).cells = (HsOf M).cells := by
        have e1 : w.heap[b2]? = _ := hA
        have e2 : w.heap[b2]? = _ := hA2
        rw [e1] at e2
        injection e2 with e2
        injection e2
      have e3 : bucketsL L = bucketsL M := by
        unfold Hs.cells at e
        have e4 := congrArg (fun a : Array Value => a.toList.drop 4) e
        simp only [List.drop_succ_cons, List.drop_zero, List.cons_append, List.nil_append, HsOf] at e4
        exact (List.map_inj_right (fun x y h => by injection h)).1 e4
      rw [← e3]
      exact HistAt.part (h := ⟨sumsL (L ++ M), bucketsL L⟩) R4
    · have q := (((RowAt.other (p := ⟨b, 0, none⟩) hA21 hb (.int .i64 (sumsL (L ++ M)).count)).other (p := ⟨b, 1, none⟩) hb (.int .u64 (sumsL (L ++ M)).sum)).other (p := ⟨b, 2, none⟩) hb (.int .u64 (sumsL (L ++ M)).least)).other (p := ⟨b, 3, none⟩) hb (.int .u64 (sumsL (L ++ M)).most)
      exact HistAt.part (h := HsOf M) q
  refine wp_name (Pr := fun W => RowAt W b (⟨sumsL (L ++ M), bucketsL L⟩ : Hs).cells 76 ∧ But b w W ∧ ∀ j v, ((bucketsL M).map (Value.int .i64))[j]? = some v → W.cell? ⟨b2, 4 + j, none⟩ = some v) ⟨R4, B4, P4⟩ ?_
  clear R4 B4 P4 hA21 hA1 k0 k1 k2 k3 j0 j1 j2 j3 hf HW
  have hbl := RowAt.lt hA
  have hA0 := Lib.hid hA
  have hA20 := Lib.hid hA2
  clear hA hA2
  rintro W ⟨R5, B5, P5⟩
  go_upto_region 3 with (first | (refine wpList_load_part rfl 74 (.tmp 26) rfl b2 4 rfl _ _ P5 Try.underlying74 rfl (by rw [infoArr]; simp [bucketsL_length]) ?_) | (refine wpList_store_row rfl 74 (.tmp 4) (.tmp 27) rfl W.heap.size ((bucketsL M).map (Value.int .i64)).toArray rfl rfl 74 _ (heap_alloc_new W _) (by rw [infoArr]; simp [bucketsL_length]) (by simp [bucketsL_length]) (ints_one .i64 _) ?_))
  have hbW : b < W.heap.size := B5.lt hbl
  have N6 : RowAt ((W.alloc (.cells Try.zeroCells74 74)).setRow W.heap.size ((bucketsL M).map (Value.int .i64)).toArray) W.heap.size (ints .i64 (bucketsL M)) 74 := RowAt.setRow (RowAt.new W _ _) _
  have R6 := RowAt.setRow_other (RowAt.alloc R5 (.cells Try.zeroCells74 74)) (show b ≠ W.heap.size by omega) ((bucketsL M).map (Value.int .i64)).toArray
  have B6 : But b w ((W.alloc (.cells Try.zeroCells74 74)).setRow W.heap.size ((bucketsL M).map (Value.int .i64)).toArray) := by
    refine B5.trans ⟨rfl, rfl, rfl, by simp, fun k hk hkb => ?_⟩
    simp only [World.setRow, Array.getElem?_modify]
    rw [if_neg (by omega)]
    exact Below.heap_alloc _ _ _ hk
  obtain ⟨bn, hbn⟩ : ∃ bn, W.heap.size = bn := ⟨_, rfl⟩
  rw [hbn] at N6 R6 B6 hbW ⊢
  refine wp_name (Pr := fun W => RowAt W b (⟨sumsL (L ++ M), mixL L M 0⟩ : Hs).cells 76 ∧ But b w W ∧ RowAt W bn (ints .i64 (bucketsL M)) 74) ⟨by rw [mixL_zero]; exact R6, B6, N6⟩ ?_
  clear N6 R6 B6 P5 R5 B5 hbn
  rintro W7 ⟨R7, B7, N7⟩
  go_wp2_with fail
  go_loopw [28] (fun i wr => ∃ k : Nat, k ≤ 65 ∧ i = .int .i64 k ∧ RowAt wr b (⟨sumsL (L ++ M), mixL L M k⟩ : Hs).cells 76 ∧ But b w wr ∧ RowAt wr bn (ints .i64 (bucketsL M)) 74) (fun i _ => 65 - (intOf i).toNat)
  case atStart => exact ⟨0, by omega, rfl, R7, B7, N7⟩
  case round =>
    clear R7 B7 N7
    obtain ⟨k, hk, rfl, R, B, N⟩ := hrel
    by_cases hlt : k < 65
    · have hbnd := HN.out k
      obtain ⟨n0, n1, n2⟩ := hbnd
      have n3 : cntL L k + cntL M k ≤ 9223372036854775807 := by omega
      obtain ⟨hkR, hfR⟩ := Ext.cells R
      obtain ⟨hkN, hfN⟩ := Ext.cells N
      have c0 : ∀ x : Ext wr.heap.size wr, x.world.cell? ⟨b, 4 + k, none⟩ = some (.int .i64 (cntL L k)) := fun x => (hkR x _).trans (hs_bucket (mixL_get L M hlt))
      have c1 : ∀ x : Ext wr.heap.size wr, x.world.frozen? ⟨b, 4 + k, none⟩ = false := fun x => hfR x _
      have c2 : ∀ x : Ext wr.heap.size wr, x.world.cell? ⟨bn, k, none⟩ = some (.int .i64 (cntL M k)) := fun x => (hkN x _).trans (ints_get (bucketsL_get M hlt))
      have i0 : (0 : Int) ≤ (k : Int) := by omega
      have i1 : (k : Int) < 65 := by omega
      clear hkR hfR hkN hfN n2
      have HR := Lib.hid R
      have HB := Lib.hid B
      have HNN := Lib.hid N
      clear R B N
      refine wp_start (w := wr) ?_
      intro x
      go_wp2_with fail
      refine wp_region_ext_tail _ 13 (by kernel_rfl) (by kernel_rfl) (by kernel_rfl) ?_
      simp only [List.take_succ_cons, List.take_zero, List.drop_succ_cons, List.drop_zero]
      repeat (go_big_quiet_step (fail))
      refine wpQuiet_nil ?_
      rintro _ ⟨y, rfl⟩
      go_wp2_with fail
      have R6 := RowAt.set (RowAt.ext HR.out y.ok) (4 + k) (.int .i64 (cntL L k + cntL M k))
      rw [cells_setn] at R6
      simp only [mixL_step L M hlt] at R6
      refine ⟨⟨k + 1, by omega, by simp, R6, ((HB.out.trans (but_of y.ok b)).set _ _), RowAt.other (RowAt.ext HNN.out y.ok) (by dsimp only; omega) _⟩, ?_⟩
      simp only [intOf]
      omega
    · obtain rfl : k = 65 := by omega
      rw [mixL_all] at R
      go_wp2_with fail
      go_end0
      exact ⟨rfl, R, B⟩
end Go.Proofs.Ytaihebdjhbnhoaa
