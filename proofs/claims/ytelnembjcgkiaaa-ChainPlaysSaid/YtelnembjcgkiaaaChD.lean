/- Chains at keys of two numbers: New. -/
import Derived.Test.YtelnembjcgkiaaaChC
import Derived.Laws.MakeOwn
namespace Go.Proofs.Ytelnembjcgkiaaa
open Go.RowKit
set_option linter.unusedVariables false
set_option linter.unusedSimpArgs false

def zlk : Nat → Lk (Int × Int) := fun _ => ⟨(0, 0), false, 0, 0⟩
theorem made_lk (n : Nat) : madeCells #[.int .i64 0, .int .i64 0, .bool false, .int .i64 0, .int .i64 0] (n * 5) = (lkR zlk n).toArray := by
  have hl : (lkR zlk n).length = n * 5 := grpL_length n (fun i => lkC_len _)
  apply Array.ext
  · rw [size_madeCells]; simpa using hl.symm
  · intro i h1 h2
    rw [size_madeCells] at h1
    have hi : i / 5 < n := by omega
    have hj : i % 5 < 5 := by omega
    have hg := grpL_get (f := fun i => lkC (zlk i)) n (fun i => lkC_len _) hi hj
    have e : i / 5 * 5 + i % 5 = i := by omega
    rw [e] at hg
    have e2 : (lkR zlk n).toArray[i] = ([.int .i64 0, .int .i64 0, .bool false, .int .i64 0, .int .i64 0] : List Value)[i % 5]'hj := by
      have h3 : (lkR zlk n)[i]? = some ((lkR zlk n).toArray[i]) := by
        rw [List.getElem?_eq_getElem (by simpa using h2)]; simp
      have h4 : (lkR zlk n)[i]? = (lkC (zlk (i / 5)))[i % 5]? := hg
      rw [h4, List.getElem?_eq_getElem (by rw [lkC_len]; exact hj)] at h3
      injection h3 with h3
      exact h3.symm
    rw [e2]
    simp only [madeCells, Array.getElem_map, Array.getElem_range]
    show (#[Value.int .i64 0, .int .i64 0, .bool false, .int .i64 0, .int .i64 0])[i % 5]! = _
    have hc : i % 5 = 0 ∨ i % 5 = 1 ∨ i % 5 = 2 ∨ i % 5 = 3 ∨ i % 5 = 4 := by omega
    rcases hc with h | h | h | h | h <;> simp only [h] <;> rfl
theorem run_mk (n : Nat) (hn : n ≤ 4096) (w : World) : (Instr.makeSlice 59 (.int .i64 (n : Int)) (.int .i64 (n : Int))).run Try.prog w = .ok (.slice (some ⟨w.heap.size, 0, none⟩) n n) (w.alloc (.cells (lkR zlk n).toArray 63)) := by
  obtain ⟨i, hi, hz0, hz1, hz2⟩ := info_parts (show (Try.prog.info? 63).map (fun i => (i.zero, i.size, i.bytes)) = some (some (.agg #[.int .i64 0, .int .i64 0, .bool false, .int .i64 0, .int .i64 0]), 5, 40) by kernel_rfl)
  have h := run_makeSlice (P := Try.prog) w 59 63 i (.agg #[.int .i64 0, .int .i64 0, .bool false, .int .i64 0, .int .i64 0]) Try.underlying59 hi hz0 .i64 .i64 n n (by omega) (by omega) (by rw [hz1]; omega) (by rw [hz2]; omega) (by omega)
  rw [hz1, Int.toNat_natCast] at h
  rw [show (Value.agg #[.int .i64 0, .int .i64 0, .bool false, .int .i64 0, .int .i64 0]).cells = #[.int .i64 0, .int .i64 0, .bool false, .int .i64 0, .int .i64 0] from rfl, made_lk] at h
  exact h
set_option maxHeartbeats 8000000 in
set_option maxRecDepth 100000 in
theorem new_any (n : Nat) (w : World) (h1 : 1 ≤ n) (h2 : n ≤ 4096) :
    Calls Try.prog 7 #[.int .i64 n] w fun e w' => ∃ b bm bl, e = .returned (.tuple #[.pointer (some ⟨b, 0, none⟩), .int .i64 0]) ∧ (w.heap.size ≤ b ∧ w.heap.size ≤ bm ∧ w.heap.size ≤ bl) ∧ ChAt w' b bm bl n [] zlk ∧ Below w.heap.size w w' := by
  have d1 : decide ((n : Int) < 1) = false := dec_f (by omega)
  have d2 : decide ((4096 : Int) < (n : Int)) = false := dec_f (by omega)
  have hmk := run_mk n h2
  have hm1 : ∀ w : World, (Instr.makeMap 58 none).run Try.prog w = .ok (.map (some w.heap.size)) (w.alloc (.map #[] 0)) := fun w => by kernel_rfl
  go_enter Try.func7, Try.ntmps7
  go_wp2_with fail
  refine bodyPost_ret (v := .tuple #[.pointer (some ⟨w.heap.size + 1 + 1, 0, none⟩), .int .i64 0]) (by simp [results, Try.results7, go_sem]) rfl ⟨w.heap.size + 1 + 1, w.heap.size, w.heap.size + 1, rfl, ⟨by omega, by omega, by omega⟩, ⟨[], 0, n, ?_⟩, below_new (below_new (below_new (Below.refl _ _) _) _) _⟩
  have hr := RowAt.new ((w.alloc (.map #[] 0)).alloc (.cells (lkR zlk n).toArray 63 )) #[.map (some w.heap.size), .slice (some ⟨w.heap.size + 1, 0, none⟩) n n] 61
  have hl := RowAt.new (w.alloc (.map #[] 0)) (lkR zlk n).toArray 63
  simp only [World.size_alloc] at hr hl
  exact { row := hr, m := ((MapAt.new w ek).alloc _).alloc _, ok := MapOk.nil, lks := hl.alloc _, cple := Nat.le_refl _, rep := Rep.empty (0, 0) n, v := fun k => rfl, ne1 := by omega, ne2 := by omega, ne3 := by omega }
def keyI (n : Nat) (lk : Nat → Lk (Int × Int)) (i : Int) : Int × Int := if inB n lk i = true then (lk i.toNat).key else (0, 0)
set_option maxHeartbeats 8000000 in
set_option maxRecDepth 100000 in
theorem key_yes (b bm bl n : Nat) (L : List ((Int × Int) × Nat)) (lk : Nat → Lk (Int × Int)) (w : World) (hA : ChAt w b bm bl n L lk) (hn : n ≤ 4096) (i : Int) (h : inB n lk i = true) :
    Calls Try.prog 12 #[.pointer (some ⟨b, 0, none⟩), .int .i64 i] w fun e w' => e = .returned (.tuple #[ek (lk i.toNat).key, .bool true]) ∧ Below w.heap.size w w' := by
  obtain ⟨h0, h1⟩ := inB_range h
  obtain ⟨j, hj⟩ := Int.eq_ofNat_of_zero_le h0
  have hjn : j < n := by omega
  have e : i.toNat = j := by omega
  rw [e]
  obtain ⟨⟨k1, k2⟩, hk⟩ : ∃ k, (lk j).key = k := ⟨_, rfl⟩
  rw [hk]
  unfold ek
  go_enter Try.func12, Try.ntmps12
  go_upto_region 2 with fail
  refine wp_name (Pr := fun W => RowAt W w.heap.size #[.int .i64 0, .int .i64 0] 28 ∧ RowAt W (w.heap.size + 1) #[.int .i64 0, .int .i64 0] 28 ∧ ChAt W b bm bl n L lk ∧ Below w.heap.size w W) ⟨(RowAt.new w _ _).alloc _, (by have h := RowAt.new (w.alloc (.cells #[.int .i64 0, .int .i64 0] 28 )) #[.int .i64 0, .int .i64 0] 28 ; simpa using h), hA.ext (below_new (below_new (Below.refl _ _) _) _), below_new (below_new (Below.refl _ _) _) _⟩ ?_
  clear hA
  rintro W ⟨hX, hY, hA, hB⟩
  have hi := is_any b bm bl n L lk W hA hn i
  obtain ⟨M, c, cp, q⟩ := hA
  have c1 : W.cell? ⟨b, 1, none⟩ = some (.slice (some ⟨bl, 0, none⟩) n cp) := q.row.cell (i := 1) rfl
  have x0 := hX.cell (i := 0) rfl
  have x1 := hX.cell (i := 1) rfl
  have y0 := hY.cell (i := 0) rfl
  have y1 := hY.cell (i := 1) rfl
  have f0 := hX.frozen 0
  have f1 := hX.frozen 1
  have HX := Lib.hid hX
  have HB := Lib.hid hB
  clear hX hY hB
  have c2 : W.cell? ⟨bl, j * 5, none⟩ = some (.int .i64 (lk j).key.1) := lk_cell (j := 0) q hjn (by decide) rfl
  have c3 : W.cell? ⟨bl, j * 5 + 1, none⟩ = some (.int .i64 (lk j).key.2) := lk_cell (j := 1) q hjn (by decide) rfl
  rw [hk] at c2 c3
  dsimp only at c2 c3
  rw [h] at hi
  have HI := Lib.hid hi
  subst hj
  clear q hi h e hk
  go_wp2_with (go_at_call 35; refine HI.out.mono ?_; rintro e w1 ⟨rfl, rfl⟩)
  have R := (HX.out.set 0 (.int .i64 k1)).set 1 (.int .i64 k2)
  have e0 := R.cell (i := 0) rfl
  have e1 := R.cell (i := 1) rfl
  refine bodyPost_ret (v := .tuple #[.agg #[.int .i64 k1, .int .i64 k2], .bool true]) (by simp [results, Try.results12, go_sem, e0, e1]) rfl ⟨rfl, ?_⟩
  exact below_set (below_set HB.out (Nat.le_refl _) _) (Nat.le_refl _) _
set_option maxHeartbeats 8000000 in
set_option maxRecDepth 100000 in
theorem key_no (b bm bl n : Nat) (L : List ((Int × Int) × Nat)) (lk : Nat → Lk (Int × Int)) (w : World) (hA : ChAt w b bm bl n L lk) (hn : n ≤ 4096) (i : Int) (h : inB n lk i = false) :
    Calls Try.prog 12 #[.pointer (some ⟨b, 0, none⟩), .int .i64 i] w fun e w' => e = .returned (.tuple #[ek (0, 0), .bool false]) ∧ Below w.heap.size w w' := by
  unfold ek
  go_enter Try.func12, Try.ntmps12
  go_upto_region 2 with fail
  refine wp_name (Pr := fun W => RowAt W w.heap.size #[.int .i64 0, .int .i64 0] 28 ∧ RowAt W (w.heap.size + 1) #[.int .i64 0, .int .i64 0] 28 ∧ ChAt W b bm bl n L lk ∧ Below w.heap.size w W) ⟨(RowAt.new w _ _).alloc _, (by have h := RowAt.new (w.alloc (.cells #[.int .i64 0, .int .i64 0] 28 )) #[.int .i64 0, .int .i64 0] 28 ; simpa using h), hA.ext (below_new (below_new (Below.refl _ _) _) _), below_new (below_new (Below.refl _ _) _) _⟩ ?_
  clear hA
  rintro W ⟨hX, hY, hA, hB⟩
  have hi := is_any b bm bl n L lk W hA hn i
  obtain ⟨M, c, cp, q⟩ := hA
  have c1 : W.cell? ⟨b, 1, none⟩ = some (.slice (some ⟨bl, 0, none⟩) n cp) := q.row.cell (i := 1) rfl
  have x0 := hX.cell (i := 0) rfl
  have x1 := hX.cell (i := 1) rfl
  have y0 := hY.cell (i := 0) rfl
  have y1 := hY.cell (i := 1) rfl
  have f0 := hX.frozen 0
  have f1 := hX.frozen 1
  have HX := Lib.hid hX
  have HB := Lib.hid hB
  clear hX hY hB
  rw [h] at hi
  have HI := Lib.hid hi
  clear q hi h
  go_wp2_with (go_at_call 35; refine HI.out.mono ?_; rintro e w1 ⟨rfl, rfl⟩)
  have R := (HX.out.set 0 (.int .i64 0)).set 1 (.int .i64 0)
  have e0 := R.cell (i := 0) rfl
  have e1 := R.cell (i := 1) rfl
  refine bodyPost_ret (v := .tuple #[.agg #[.int .i64 0, .int .i64 0], .bool false]) (by simp [results, Try.results12, go_sem, e0, e1, x0, x1]) rfl ⟨rfl, ?_⟩
  exact below_set (below_set HB.out (Nat.le_refl _) _) (Nat.le_refl _) _
end Go.Proofs.Ytelnembjcgkiaaa
