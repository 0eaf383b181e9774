/- The handle of a place of a pool. -/
import Derived.Test.YtelnembjcgkiaaaDoorPoP
namespace Go.Proofs.YtelnembjcgkiaaaDoor
open Go.RowKit
set_option linter.unusedVariables false
set_option linter.unusedSimpArgs false

set_option maxHeartbeats 8000000 in
set_option maxRecDepth 100000 in
theorem handleAt_yes (b be bo bt : Nat) (p : Po) (w : World) (hA : PoAt w b be bo bt p) (ok : p.ok) (X : Nat) (hX : X < p.room) (ht : p.tk X = true) :
    Calls Tryd.prog 17 #[.pointer (some ⟨b, 0, none⟩), .int .i64 X] w fun e w' => e = .returned (.int .u64 (hv p (X : Int))) ∧ Below w.heap.size w w' := by
  have HA := Lib.hid hA
  have hX4 : (X : Int) < 4096 := by have := ok.r2; omega
  have hX0 : (0 : Int) ≤ (X : Int) := by omega
  obtain ⟨V, hV⟩ : ∃ V, hv p (X : Int) = V := ⟨_, rfl⟩
  rw [hV]
  clear hA
  go_enter Tryd.func17, Tryd.ntmps17
  go_upto_region 4 with fail
  refine wp_name (Pr := fun W => RowAt W w.heap.size #[.int .i64 X] 71 ∧ PoAt W b be bo bt p ∧ Below w.heap.size w W) ⟨RowAt.new w _ _, HA.out.ext (below_new (Below.refl _ _) _), below_new (Below.refl _ _) _⟩ ?_
  clear HA
  rintro W ⟨hX', ⟨M1, c1, M2, c2, ws, q⟩, hB⟩
  obtain ⟨hkR, _⟩ := Ext.cells q.row
  obtain ⟨hkX, _⟩ := Ext.cells hX'
  have s0 : ∀ y : Ext W.heap.size W, y.world.cell? ⟨b, 0, none⟩ = some (.map (some be)) := fun y => hkR y 0
  have s1 : ∀ y : Ext W.heap.size W, y.world.cell? ⟨w.heap.size, 0, none⟩ = some (.int .i64 X) := fun y => hkX y 0
  have HM1 := Lib.hid (map_at_ext q.m1)
  have HV1 := Lib.hid (ent_zero q.v1 (X : Int))
  have hi1 : (valL (X : Int) M1).isSome = true := by
    rw [q.v1]
    have : (p.ent (X : Int)).isSome = true := ht
    cases he : p.ent (X : Int) with
    | some y => rfl
    | none => rw [he] at this; cases this
  have HQ := Lib.hid (show PoAt W b be bo bt p from ⟨M1, c1, M2, c2, ws, q⟩)
  have HB := Lib.hid hB
  have HX := Lib.hid hX'
  have HI1 := Lib.hid hi1
  clear q hX' hB hkR hkX hi1
  have HS := Lib.hid (fun w' (h : Below W.heap.size W w') => (show w'.cell? ⟨b, 0, none⟩ = some (.map (some be)) ∧ w'.cell? ⟨w.heap.size, 0, none⟩ = some (.int .i64 X) ∧ MapAt w' be pl M1 c1 from ⟨s0 ⟨_, h⟩, s1 ⟨_, h⟩, HM1.out _ ⟨⟨_, h⟩, rfl⟩⟩))
  clear s0 s1
  refine wp_region_held_drew (S := (fun w' => w'.cell? ⟨b, 0, none⟩ = some (.map (some be)) ∧ w'.cell? ⟨w.heap.size, 0, none⟩ = some (.int .i64 X) ∧ MapAt w' be pl M1 c1)) (by kernel_rfl) (HS.out _ (Below.refl _ _).drew) (fun hHeld => ?_)
  refine' wpAnyH_take (i := 0) (v := ?v1) rfl (by kernel_rfl) (by kernel_rfl) (by kernel_rfl) (fun _ _ _ h => h) (Or.inl ⟨by rfl, ?hy1⟩) hHeld ?rest1
  case hy1 => (intro w hSw; (try dsimp only at hSw); go_simp; try with_reducible rfl)
  try simp only [Act.put, List.setIfInBounds_toArray, List.set_cons_zero, List.set_cons_succ]
  refine' wpAnyH_take (i := 1) (v := ?v2) rfl (by kernel_rfl) (by kernel_rfl) (by kernel_rfl) (fun _ _ _ h => h) (Or.inl ⟨by rfl, ?hy2⟩) hHeld ?rest2
  case hy2 => (intro w hSw; (try dsimp only at hSw); go_simp; try with_reducible rfl)
  try simp only [Act.put, List.setIfInBounds_toArray, List.set_cons_zero, List.set_cons_succ]
  refine' wpAnyH_take (i := 2) (v := ?v3) rfl (by kernel_rfl) (by kernel_rfl) (by kernel_rfl) (fun _ _ _ h => h) (Or.inl ⟨by rfl, ?hy3⟩) hHeld ?rest3
  case hy3 => (intro w hSw; (try dsimp only at hSw); go_simp; try with_reducible rfl)
  try simp only [Act.put, List.setIfInBounds_toArray, List.set_cons_zero, List.set_cons_succ]
  refine' wpAnyH_take (i := 3) (v := ?v4) rfl (by kernel_rfl) (by kernel_rfl) (by kernel_rfl) (fun _ _ _ h => h) (Or.inl ⟨by rfl, ?hy4⟩) hHeld ?rest4
  case hy4 => (intro w hSw; (try dsimp only at hSw); go_simp; try with_reducible rfl)
  try simp only [Act.put, List.setIfInBounds_toArray, List.set_cons_zero, List.set_cons_succ]
  refine' wpAnyH_take (i := 4) (v := ?v5) rfl (by kernel_rfl) (by kernel_rfl) (by kernel_rfl) (fun _ _ _ h => h) (Or.inl ⟨by rfl, ?hy5⟩) hHeld ?rest5
  case hy5 => (intro w hSw; (try dsimp only at hSw); go_simp; try with_reducible rfl)
  try simp only [Act.put, List.setIfInBounds_toArray, List.set_cons_zero, List.set_cons_succ]
  refine' wpAnyH_take (i := 5) (v := _) rfl (by kernel_rfl) (by kernel_rfl) (by kernel_rfl) (fun _ _ _ h => h) (yieldsIf_lookup_ok_at (by rfl) (.tmp 16) (.tmp 17) rfl keyEnc_pl Tryd.underlying66 (.agg #[.int .u64 0, .int .u64 0, .int .u64 0]) (fun w => by kernel_rfl) (fun w' h => h.2.2) rfl (X : Int) rfl _ true HV1.out HI1.out) hHeld ?_
  try simp only [Act.put, List.setIfInBounds_toArray, List.set_cons_zero, List.set_cons_succ]
  refine' wpAnyH_take (i := 6) (v := ?v6) rfl (by kernel_rfl) (by kernel_rfl) (by kernel_rfl) (fun _ _ _ h => h) (Or.inl ⟨by rfl, ?hy6⟩) hHeld ?rest6
  case hy6 => (intro w hSw; (try dsimp only at hSw); go_simp; try with_reducible rfl)
  try simp only [Act.put, List.setIfInBounds_toArray, List.set_cons_zero, List.set_cons_succ]
  refine' wpAnyH_take (i := 7) (v := ?v7) rfl (by kernel_rfl) (by kernel_rfl) (by kernel_rfl) (fun _ _ _ h => h) (Or.inl ⟨by rfl, ?hy7⟩) hHeld ?rest7
  case hy7 => (intro w hSw; (try dsimp only at hSw); go_simp; try with_reducible rfl)
  try simp only [Act.put, List.setIfInBounds_toArray, List.set_cons_zero, List.set_cons_succ]
  refine' wpAnyH_take (i := 8) (v := ?v8) rfl (by kernel_rfl) (by kernel_rfl) (by kernel_rfl) (fun _ _ _ h => h) (Or.inl ⟨by rfl, ?hy8⟩) hHeld ?rest8
  case hy8 => (intro w hSw; (try dsimp only at hSw); go_simp; try with_reducible rfl)
  try simp only [Act.put, List.setIfInBounds_toArray, List.set_cons_zero, List.set_cons_succ]
  refine wpAnyH_ready (rs := [9]) (by kernel_rfl) (by simp) ?_
  refine AllReadyH.cons rfl (fun K hK => ?_) AllReadyH.nil
  go_simp
  refine hK.out _ _ (HS.out _ (below_new (Below.refl _ _) _).drew) (fun hHeld => ?_)
  clear hK K
  try simp only [Act.put, List.setIfInBounds_toArray, List.set_cons_zero, List.set_cons_succ]
  refine wpAnyH_ready (rs := [10]) (by kernel_rfl) (by simp) ?_
  refine AllReadyH.cons rfl (fun K hK => ?_) AllReadyH.nil
  go_simp
  refine hK.out _ _ (HS.out _ (below_new (Below.refl _ _) _).drew) (fun hHeld => ?_)
  clear hK K
  try simp only [Act.put, List.setIfInBounds_toArray, List.set_cons_zero, List.set_cons_succ]
  refine wpAnyH_ready (rs := [11]) (by kernel_rfl) (by simp) ?_
  refine AllReadyH.cons rfl (fun K hK => ?_) AllReadyH.nil
  go_simp
  refine hK.out _ _ hHeld (fun hHeld => ?_)
  clear hK K
  try simp only [Act.put, List.setIfInBounds_toArray, List.set_cons_zero, List.set_cons_succ]
  refine wpAnyH_done (by kernel_rfl) ?_ _
  dsimp only [Exit.then]
  refine k_name (Pr := fun W' => PoAt W' b be bo bt p ∧ RowAt W' w.heap.size #[.int .i64 X] 71 ∧ Below w.heap.size w W')
    ⟨HQ.out.ext (below_new (Below.refl _ _) _).drew, RowAt.ext HX.out (below_new (Below.refl _ _) _).drew, below_then HB.out (below_new (Below.refl _ _) _).drew⟩ ?_
  clear HM1 HV1 HI1 HQ HB HX hHeld HS
  rintro W5 ⟨hA, hX', hB⟩
  have HA := Lib.hid hA
  have HB := Lib.hid hB
  have c0 := hX'.cell (i := 0) rfl
  clear hA hX' hB
  go_at_K
  go_wp2_with (go_at_call 32; refine (handle_any b be bo bt p _ HA.out ok (X : Int) hX0 hX4).mono ?_; rintro e w6 ⟨rfl, hb6⟩; rw [hV])
  go_ret
  exact ⟨rfl, below_then HB.out hb6⟩
end Go.Proofs.YtelnembjcgkiaaaDoor
