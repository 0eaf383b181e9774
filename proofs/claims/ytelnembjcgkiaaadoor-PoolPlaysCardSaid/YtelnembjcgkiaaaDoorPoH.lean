/- The pool: New; the chapter's example. -/
import Derived.Test.YtelnembjcgkiaaaDoorPoG
import Derived.Laws.MakeOwn
namespace Go.Proofs.YtelnembjcgkiaaaDoor
open Go.RowKit
set_option linter.unusedVariables false
set_option linter.unusedSimpArgs false

def Po.new (r : Nat) : Po := ⟨r, fun _ => none, fun _ => 0⟩
theorem new_ok {r : Nat} (h1 : 1 ≤ r) (h2 : r ≤ 4096) : (Po.new r).ok := ⟨h1, h2, fun x h => by simp [Po.new] at h, fun x => by simp [Po.new]⟩
theorem new_tk (r x : Nat) : (Po.new r).tk x = false := rfl
theorem new_cnt (r : Nat) : (Po.new r).cnt = 0 := by
  unfold Po.cnt
  have : ∀ n, cntB (Po.new r).tk n = 0 := fun n => by
    induction n with
    | zero => rfl
    | succ n ih => rw [cntB_succ, ih, new_tk]; rfl
  exact this _
theorem made_zero (n : Nat) : madeCells #[.int .u64 0] (n * 1) = ints .u64 (List.replicate n 0) := by
  apply Array.ext
  · simp [madeCells, ints]
  · intro i h1 h2
    simp [madeCells, ints, Nat.mod_one]
theorem run_mk (n : Nat) (hn : n ≤ 64) (w : World) : (Instr.makeSlice 28 (.int .i64 (n : Int)) (.int .i64 (n : Int))).run Tryd.prog w = .ok (.slice (some ⟨w.heap.size, 0, none⟩) n n) (w.alloc (.cells (ints .u64 (List.replicate n 0)) 23)) := by
  obtain ⟨i, hi, hz0, hz1, hz2⟩ := info_parts (show (Tryd.prog.info? 23).map (fun i => (i.zero, i.size, i.bytes)) = some (some (.int .u64 0), 1, 8) by kernel_rfl)
  have h := run_makeSlice (P := Tryd.prog) w 28 23 i (.int .u64 0) Tryd.underlying28 hi hz0 .i64 .i64 n n (by omega) (by omega) (by rw [hz1]; omega) (by rw [hz2]; omega) (by omega)
  rw [hz1, Int.toNat_natCast] at h
  rw [show (Value.int .u64 0).cells = #[.int .u64 0] from rfl, made_zero] at h
  exact h
theorem new_in (r : Nat) (h1 : 1 ≤ r) (W : World) (b be bo bt : Nat) (hr : RowAt W b #[.map (some be), .map (some bo), .slice (some ⟨bt, 0, none⟩) (nw r) (nw r), .int .i64 r] 69) (m1 : MapAt W be pl ([] : List (Ent Int)) 0) (m2 : MapAt W bo pl ([] : List (Ent Int)) 0)
    (r3 : RowAt W bt (ints .u64 (List.replicate (nw r) 0)) 23) (n1 : b ≠ be) (n2 : b ≠ bo) (n3 : b ≠ bt) (n4 : be ≠ bo) (n5 : be ≠ bt) (n6 : bo ≠ bt) : PoAt W b be bo bt (Po.new r) := by
  have hg : ∀ i, (List.replicate (nw r) (0 : Int)).getD i 0 = 0 := fun i => by
    rw [List.getD_eq_getElem?_getD, List.getElem?_replicate]
    split <;> rfl
  exact ⟨[], 0, [], 0, List.replicate (nw r) 0, ⟨by rw [List.length_replicate]; exact hr, m1, m2, r3, MapOk.nil, MapOk.nil, fun x => rfl, fun x => rfl, by simp [Po.new], fun i => by rw [hg]; omega, fun i s _ _ => by rw [hg]; simp [bitI, Po.tk, Po.new], by rw [new_cnt]; rfl, n1, n2, n3, n4, n5, n6⟩⟩
set_option maxHeartbeats 8000000 in
set_option maxRecDepth 100000 in
theorem new_any (r : Nat) (w : World) (h1 : 1 ≤ r) (h2 : r ≤ 4096) :
    Calls Tryd.prog 8 #[.int .i64 r] w fun e w' => ∃ b be bo bt, e = .returned (.tuple #[.pointer (some ⟨b, 0, none⟩), .int .i64 0]) ∧ (w.heap.size ≤ b ∧ w.heap.size ≤ be ∧ w.heap.size ≤ bo ∧ w.heap.size ≤ bt) ∧ PoAt w' b be bo bt (Po.new r) ∧ Below w.heap.size w w' := by
  have d1 : decide ((r : Int) < 1) = false := dec_f (by omega)
  have d2 : decide ((4096 : Int) < (r : Int)) = false := dec_f (by omega)
  obtain ⟨n, hn⟩ : ∃ n, nw r = n := ⟨_, rfl⟩
  have hnm : n ≤ 64 := by rw [← hn]; unfold nw; omega
  have e1 : ((r : Int) + 63) / 64 = (n : Int) := by rw [← hn]; unfold nw; omega
  have e2 : ((r : Int) + 64 - 1) / 64 = (n : Int) := by rw [← hn]; unfold nw; omega
  have hmk := run_mk n hnm
  have hm1 : ∀ w : World, (Instr.makeMap 66 none).run Tryd.prog w = .ok (.map (some w.heap.size)) (w.alloc (.map #[] 0)) := fun w => by kernel_rfl
  have hm2 : ∀ w : World, (Instr.makeMap 67 none).run Tryd.prog w = .ok (.map (some w.heap.size)) (w.alloc (.map #[] 0)) := fun w => by kernel_rfl
  go_enter Tryd.func8, Tryd.ntmps8
  go_wp2_with fail
  go_ret2
  subst hn
  refine ⟨w.heap.size + 1 + 1 + 1, w.heap.size, w.heap.size + 1, w.heap.size + 1 + 1, rfl, ⟨by omega, by omega, by omega, by omega⟩, new_in r h1 _ _ _ _ _ ?_ ?_ ?_ ?_ (by omega) (by omega) (by omega) (by omega) (by omega) (by omega), below_new (below_new (below_new (below_new (Below.refl _ _) _) _) _) _⟩
  · have h := RowAt.new (((w.alloc (.map #[] 0)).alloc (.map #[] 0)).alloc (.cells (ints .u64 (List.replicate (nw r) 0)) 23)) #[.map (some w.heap.size), .map (some (w.heap.size + 1)), .slice (some ⟨w.heap.size + 1 + 1, 0, none⟩) (nw r) (nw r), .int .i64 r] 69
    simpa only [World.size_alloc] using h
  · exact (((MapAt.new w pl).alloc _).alloc _).alloc _
  · have h := MapAt.new (w.alloc (.map #[] 0)) pl
    rw [World.size_alloc] at h
    exact (h.alloc _).alloc _
  · have h := RowAt.new ((w.alloc (.map #[] 0)).alloc (.map #[] 0)) (ints .u64 (List.replicate (nw r) 0)) 23
    simp only [World.size_alloc] at h
    exact h.alloc _
end Go.Proofs.YtelnembjcgkiaaaDoor
