/- The pool: handle, find, free, mark. -/
import Derived.Test.YtelnembjcgkiaaaDoorPoB
import Derived.Deep.RegionHeld3
import Derived.Deep.RegionWith
namespace Go.Proofs.YtelnembjcgkiaaaDoor
open Go.RowKit
set_option linter.unusedVariables false
set_option linter.unusedSimpArgs false
set_option maxHeartbeats 8000000 in
set_option maxRecDepth 100000 in
theorem handle_any (b be bo bt : Nat) (p : Po) (w : World) (hA : PoAt w b be bo bt p) (ok : p.ok) (x : Int) (x0 : 0 ≤ x) (x1 : x < 4096) :
    Calls Tryd.prog 32 #[.pointer (some ⟨b, 0, none⟩), pl x] w fun e w' => e = .returned (.int .u64 (hv p x)) ∧ Below w.heap.size w w' := by
  obtain ⟨M1, c1, M2, c2, ws, q⟩ := hA
  have hold := ok.old x
  have HJ := Lib.hid (show bits .or .u64 (((p.old x : Int) + 1) * 4096) x = hv p x from u64_or_add 12 _ _ (by omega) (by omega) (by omega) x0 (by omega) (by omega))
  unfold pl
  go_enter Tryd.func32, Tryd.ntmps32
  go_upto_region 1 with fail
  refine wp_name (Pr := fun W => PoIn W b be bo bt p M1 c1 M2 c2 ws ∧ RowAt W w.heap.size #[.int .i64 x] 71 ∧ Below w.heap.size w W) ⟨q.ext (below_new (Below.refl _ _) _), RowAt.new w _ _, below_new (Below.refl _ _) _⟩ ?_
  clear q
  rintro W ⟨q, hX, hB⟩
  obtain ⟨hkR, _⟩ := Ext.cells q.row
  obtain ⟨hkX, _⟩ := Ext.cells hX
  have s0 : ∀ y : Ext W.heap.size W, y.world.cell? ⟨b, 1, none⟩ = some (.map (some bo)) := fun y => hkR y 1
  have s1 : ∀ y : Ext W.heap.size W, y.world.cell? ⟨w.heap.size, 0, none⟩ = some (.int .i64 x) := fun y => hkX y 0
  have HM2 := Lib.hid (map_at_ext q.m2)
  have HV2 := Lib.hid (q.v2 x)
  have HB := Lib.hid hB
  clear q hX hB hkR hkX
  refine wp_start (w := W) ?_
  intro x
  refine wp_region_ext _ (by kernel_rfl) (by kernel_rfl) ?_
  repeat (first | (refine wpQuiet_lookup_at rfl (.tmp 8) (.tmp 9) rfl keyEnc_pl Tryd.underlying67 (.int .u64 0) (fun w => by kernel_rfl) (fun w' hw' => HM2.out w' hw') rfl _ rfl (.int .u64 (p.old _)) HV2.out ?_; simp only [Act.put, List.setIfInBounds_toArray, List.set_cons_succ, List.set_cons_zero]) | go_big_quiet_step (fail))
  refine wpQuiet_nil ?_
  rintro _ ⟨y, rfl⟩
  go_wp2_with fail
  go_ret
  exact ⟨ret_int HJ.out, below_then HB.out y.ok⟩
theorem results_row_tmp {P : Program} {fn : Func} {p u : Tmp} {ty : TypeId} (h : fn.results = #[.cell p ty, .tmp u]) (tmps : Array Value) (w : World) (g : Nat) (t : TypeId) (cs : Array Value) (fr : Nat × Nat) (d : TypeDesc)
    (hp : tmps.getD p undef = .pointer (some ⟨g, 0, none⟩)) (hg : w.heap[g]? = some (.cells cs t fr))
    (hu : P.underlying ty = some d) (hd : (match d with | .struct _ | .array _ _ => true | _ => false) = true) (hi : (P.info? ty).map (·.size) = some cs.size) (e : Value) (he : tmps.getD u undef = e) :
    (results fn tmps).run P w = .ok (.tuple #[.agg cs, e]) w := by
  rw [results_cell_tmp h, hp, he]
  simp [asAddr, run_loadVar_row w g t ty cs fr d hg hu hd hi]
theorem plInfo : (Tryd.prog.info? 71).map (·.size) = some 1 := by kernel_rfl
theorem enInfo : (Tryd.prog.info? 32).map (·.size) = some 3 := by kernel_rfl
def findI (p : Po) (h : Int) : Int × Bool := (h % 4096, (p.ent (h % 4096)).isSome && (hv p (h % 4096) == h))
theorem ent_zero {p : Po} {M : List (Ent Int)} (h : ∀ x, valL x M = (p.ent x).map entV) (x : Int) : (valL x M).getD (.agg #[.int .u64 0, .int .u64 0, .int .u64 0]) = .agg #[.int .u64 ((p.ent x).getD (0, 0, 0)).1, .int .u64 ((p.ent x).getD (0, 0, 0)).2.1, .int .u64 ((p.ent x).getD (0, 0, 0)).2.2] := by
  rw [h x]
  cases p.ent x <;> rfl
set_option maxHeartbeats 8000000 in
set_option maxRecDepth 100000 in
theorem find_nil (h : Int) (w : World) :
    Calls Tryd.prog 33 #[.pointer none, .int .u64 h] w fun e w' => e = .returned (.tuple #[.agg #[.int .i64 0], .bool false]) ∧ Below w.heap.size w w' := by
  go_enter Tryd.func33, Tryd.ntmps33
  go_wp2_with fail
  exact bodyPost_ret (v := .tuple #[.agg #[.int .i64 0], .bool false]) (results_row_tmp (P := Tryd.prog) rfl _ _ w.heap.size 71 #[.int .i64 0] (0, 0) _ rfl (RowAt.new w _ _) Tryd.underlying71 rfl plInfo (.bool false) rfl) rfl ⟨rfl, below_new (Below.refl _ _) _⟩
set_option maxHeartbeats 8000000 in
set_option maxRecDepth 100000 in
theorem find_any (b be bo bt : Nat) (p : Po) (w : World) (hA : PoAt w b be bo bt p) (ok : p.ok) (h : Int) (h0 : 0 ≤ h) (h1 : h ≤ 18446744073709551615) :
    Calls Tryd.prog 33 #[.pointer (some ⟨b, 0, none⟩), .int .u64 h] w fun e w' => e = .returned (.tuple #[.agg #[.int .i64 (findI p h).1], .bool (findI p h).2]) ∧ Below w.heap.size w w' := by
  have hblt : b < w.heap.size := by obtain ⟨M1, c1, M2, c2, ws, q⟩ := hA; exact q.row.lt
  have HA := Lib.hid hA
  clear hA
  unfold findI
  dsimp only
  obtain ⟨X, hX⟩ : ∃ X, h % 4096 = X := ⟨_, rfl⟩
  have x0 : 0 ≤ X := by omega
  have x1 : X < 4096 := by omega
  rw [hX]
  obtain ⟨t, ht⟩ : ∃ t, (p.ent X).isSome = t := ⟨_, rfl⟩
  rw [ht]
  have HTT := Lib.hid ht
  clear ht
  go_enter Tryd.func33, Tryd.ntmps33
  go_upto_region 3 with fail
  refine wp_name (Pr := fun W => RowAt W w.heap.size #[.int .i64 0] 71 ∧ Below w.heap.size w W) ⟨RowAt.new w _ _, below_new (Below.refl _ _) _⟩ ?_
  rintro W ⟨h4, hB⟩
  have H4 := Lib.hid h4
  have HB := Lib.hid hB
  clear h4 hB
  go_upto_region 4 with (go_at_call 15; refine (split_any h _ h0 h1).mono ?_; rintro e w1 ⟨rfl, hb1⟩)
  have h41 := RowAt.ext H4.out hb1
  have hB1 := below_then HB.out hb1
  go_upto_region 5 with fail
  refine wp_name (Pr := fun W => RowAt W w.heap.size #[.int .i64 0] 71 ∧ RowAt W w1.heap.size #[.int .i64 X] 71 ∧ PoAt W b be bo bt p ∧ Below w.heap.size w W) ⟨h41.alloc _, RowAt.new w1 _ _, HA.out.ext (below_new hB1 _), below_new hB1 _⟩ ?_
  have hne : w.heap.size ≠ w1.heap.size := by have := h41.lt; omega
  obtain ⟨gx, hgx⟩ : ∃ g, w1.heap.size = g := ⟨_, rfl⟩
  rw [hgx] at hne ⊢
  clear H4 HB h41 hB1 hb1 hgx hX HA
  rintro W ⟨h4, hX, ⟨M1, c1, M2, c2, ws, q⟩, hB⟩
  obtain ⟨hkR, _⟩ := Ext.cells q.row
  obtain ⟨hkX, _⟩ := Ext.cells hX
  have s0 : ∀ y : Ext W.heap.size W, y.world.cell? ⟨b, 0, none⟩ = some (.map (some be)) := fun y => hkR y 0
  have s1 : ∀ y : Ext W.heap.size W, y.world.cell? ⟨gx, 0, none⟩ = some (.int .i64 X) := fun y => hkX y 0
  have HM1 := Lib.hid (map_at_ext q.m1)
  have HV1 := Lib.hid (ent_zero q.v1 X)
  have hi1 : (valL X M1).isSome = (p.ent X).isSome := by rw [q.v1 X]; cases p.ent X <;> rfl
  have HQ := Lib.hid (show PoAt W b be bo bt p from ⟨M1, c1, M2, c2, ws, q⟩)
  have HB := Lib.hid hB
  have H4 := Lib.hid h4
  have HX := Lib.hid hX
  rw [HTT.out] at hi1
  have HI1 := Lib.hid hi1
  clear q hX hB hkR hkX hi1 h4
  have HS := Lib.hid (fun w' (h : Below W.heap.size W w') => (show w'.cell? ⟨b, 0, none⟩ = some (.map (some be)) ∧ w'.cell? ⟨gx, 0, none⟩ = some (.int .i64 X) ∧ MapAt w' be pl M1 c1 from ⟨s0 ⟨_, h⟩, s1 ⟨_, h⟩, HM1.out _ ⟨⟨_, h⟩, rfl⟩⟩))
  clear s0 s1
  refine wp_region_held_drew (S := (fun w' => w'.cell? ⟨b, 0, none⟩ = some (.map (some be)) ∧ w'.cell? ⟨gx, 0, none⟩ = some (.int .i64 X) ∧ MapAt w' be pl M1 c1)) (by kernel_rfl) (HS.out _ (Below.refl _ _).drew) (fun hHeld => ?_)
  refine' wpAnyH_take (i := 0) (v := ?v1) rfl (by kernel_rfl) (by kernel_rfl) (by kernel_rfl) (fun _ _ _ h => h) (Or.inl ⟨by rfl, ?hy1⟩) hHeld ?rest1
  case hy1 => (intro w hSw; (try dsimp only at hSw); go_simp; try with_reducible rfl)
  try simp only [Act.put, List.setIfInBounds_toArray, List.set_cons_zero, List.set_cons_succ]
  refine' wpAnyH_take (i := 1) (v := ?v2) rfl (by kernel_rfl) (by kernel_rfl) (by kernel_rfl) (fun _ _ _ h => h) (Or.inl ⟨by rfl, ?hy2⟩) hHeld ?rest2
  case hy2 => (intro w hSw; (try dsimp only at hSw); go_simp; try with_reducible rfl)
  try simp only [Act.put, List.setIfInBounds_toArray, List.set_cons_zero, List.set_cons_succ]
  refine' wpAnyH_take (i := 2) (v := ?v3) rfl (by kernel_rfl) (by kernel_rfl) (by kernel_rfl) (fun _ _ _ h => h) (Or.inl ⟨by rfl, ?hy3⟩) hHeld ?rest3
  case hy3 => (intro w hSw; (try dsimp only at hSw); go_simp; try with_reducible rfl)
  try simp only [Act.put, List.setIfInBounds_toArray, List.set_cons_zero, List.set_cons_succ]
  refine' wpAnyH_take (i := 3) (v := ?v4) rfl (by kernel_rfl) (by kernel_rfl) (by kernel_rfl) (fun _ _ _ h => h) (Or.inl ⟨by rfl, ?hy4⟩) hHeld ?rest4
  case hy4 => (intro w hSw; (try dsimp only at hSw); go_simp; try with_reducible rfl)
  try simp only [Act.put, List.setIfInBounds_toArray, List.set_cons_zero, List.set_cons_succ]
  refine' wpAnyH_take (i := 4) (v := ?v5) rfl (by kernel_rfl) (by kernel_rfl) (by kernel_rfl) (fun _ _ _ h => h) (Or.inl ⟨by rfl, ?hy5⟩) hHeld ?rest5
  case hy5 => (intro w hSw; (try dsimp only at hSw); go_simp; try with_reducible rfl)
  try simp only [Act.put, List.setIfInBounds_toArray, List.set_cons_zero, List.set_cons_succ]
  refine' wpAnyH_take (i := 5) (v := _) rfl (by kernel_rfl) (by kernel_rfl) (by kernel_rfl) (fun _ _ _ h => h) (yieldsIf_lookup_ok_at (by rfl) (.tmp 25) (.tmp 26) rfl keyEnc_pl Tryd.underlying66 (.agg #[.int .u64 0, .int .u64 0, .int .u64 0]) (fun w => by kernel_rfl) (fun w' h => h.2.2) rfl X rfl _ t HV1.out HI1.out) hHeld ?_
  try simp only [Act.put, List.setIfInBounds_toArray, List.set_cons_zero, List.set_cons_succ]
  refine' wpAnyH_take (i := 6) (v := ?v6) rfl (by kernel_rfl) (by kernel_rfl) (by kernel_rfl) (fun _ _ _ h => h) (Or.inl ⟨by rfl, ?hy6⟩) hHeld ?rest6
  case hy6 => (intro w hSw; (try dsimp only at hSw); go_simp; try with_reducible rfl)
  try simp only [Act.put, List.setIfInBounds_toArray, List.set_cons_zero, List.set_cons_succ]
  refine' wpAnyH_take (i := 7) (v := ?v7) rfl (by kernel_rfl) (by kernel_rfl) (by kernel_rfl) (fun _ _ _ h => h) (Or.inl ⟨by rfl, ?hy7⟩) hHeld ?rest7
  case hy7 => (intro w hSw; (try dsimp only at hSw); go_simp; try with_reducible rfl)
  try simp only [Act.put, List.setIfInBounds_toArray, List.set_cons_zero, List.set_cons_succ]
  refine' wpAnyH_take (i := 8) (v := ?v8) rfl (by kernel_rfl) (by kernel_rfl) (by kernel_rfl) (fun _ _ _ h => h) (Or.inl ⟨by rfl, ?hy8⟩) hHeld ?rest8
  case hy8 => (intro w hSw; (try dsimp only at hSw); go_simp; try with_reducible rfl)
  try simp only [Act.put, List.setIfInBounds_toArray, List.set_cons_zero, List.set_cons_succ]
  refine wpAnyH_ready (rs := [9]) (by kernel_rfl) (by simp) ?_
  refine AllReadyH.cons rfl (fun K hK => ?_) AllReadyH.nil
  go_simp
  refine hK.out _ _ (HS.out _ (below_new (Below.refl _ _) _).drew) (fun hHeld => ?_)
  clear hK K
  try simp only [Act.put, List.setIfInBounds_toArray, List.set_cons_zero, List.set_cons_succ]
  refine wpAnyH_ready (rs := [10]) (by kernel_rfl) (by simp) ?_
  refine AllReadyH.cons rfl (fun K hK => ?_) AllReadyH.nil
  go_simp
  refine hK.out _ _ (HS.out _ (below_new (Below.refl _ _) _).drew) (fun hHeld => ?_)
  clear hK K
  try simp only [Act.put, List.setIfInBounds_toArray, List.set_cons_zero, List.set_cons_succ]
  refine wpAnyH_ready (rs := [11]) (by kernel_rfl) (by simp) ?_
  refine AllReadyH.cons rfl (fun K hK => ?_) AllReadyH.nil
  go_simp
  refine hK.out _ _ hHeld (fun hHeld => ?_)
  clear hK K
  try simp only [Act.put, List.setIfInBounds_toArray, List.set_cons_zero, List.set_cons_succ]
  refine wpAnyH_done (by kernel_rfl) ?_ _
  dsimp only [Exit.then]
  refine k_name (Pr := fun W' => PoAt W' b be bo bt p ∧ RowAt W' w.heap.size #[.int .i64 0] 71 ∧ RowAt W' gx #[.int .i64 X] 71 ∧ Below w.heap.size w W')
    ⟨HQ.out.ext (below_new (Below.refl _ _) _).drew, RowAt.ext H4.out (below_new (Below.refl _ _) _).drew, RowAt.ext HX.out (below_new (Below.refl _ _) _).drew, below_then HB.out (below_new (Below.refl _ _) _).drew⟩ ?_
  clear HM1 HV1 HI1 HQ HB H4 HX hHeld HS
  rintro W5 ⟨hA, h4, hX, hB⟩
  go_at_K
  go_upto_region 6 with fail
  have HA := Lib.hid hA
  have H4 := Lib.hid h4
  have HB := Lib.hid hB
  have c1 : W5.drew.cell? ⟨w.heap.size, 0, none⟩ = some (.int .i64 0) := h4.drew.cell (i := 0) rfl
  have f1 : W5.drew.frozen? ⟨w.heap.size, 0, none⟩ = false := h4.drew.frozen 0
  have HX := Lib.hid hX
  have hk0 : W5.drew.cell? ⟨gx, 0, none⟩ = some (.int .i64 X) := hX.drew.cell (i := 0) rfl
  clear hA h4 hX hB
  have hgx : gx ≠ w.heap.size := Ne.symm hne
  cases t with
  | true =>
    refine wp_region_held_drew (S := (fun w' => w'.cell? ⟨gx, 0, none⟩ = some (.int .i64 X))) (by kernel_rfl) hk0 (fun hHeld => ?_)
    refine' wpAnyH_take (i := 0) (v := ?v9) rfl (by kernel_rfl) (by kernel_rfl) (by kernel_rfl) (fun _ _ _ h => h) (Or.inl ⟨by rfl, ?hy9⟩) hHeld ?rest9
    case hy9 => (intro w hSw; (try dsimp only at hSw); go_simp; try with_reducible rfl)
    try simp only [Act.put, List.setIfInBounds_toArray, List.set_cons_zero, List.set_cons_succ]
    refine' wpAnyH_take (i := 1) (v := ?v10) rfl (by kernel_rfl) (by kernel_rfl) (by kernel_rfl) (fun _ _ _ h => h) (Or.inl ⟨by rfl, ?hy10⟩) hHeld ?rest10
    case hy10 => (intro w hSw; (try dsimp only at hSw); go_simp; try with_reducible rfl)
    try simp only [Act.put, List.setIfInBounds_toArray, List.set_cons_zero, List.set_cons_succ]
    refine' wpAnyH_take (i := 2) (v := ?v11) rfl (by kernel_rfl) (by kernel_rfl) (by kernel_rfl) (fun _ _ _ h => h) (Or.inl ⟨by rfl, ?hy11⟩) hHeld ?rest11
    case hy11 => (intro w hSw; (try dsimp only at hSw); go_simp; try with_reducible rfl)
    try simp only [Act.put, List.setIfInBounds_toArray, List.set_cons_zero, List.set_cons_succ]
    refine' wpAnyH_take (i := 3) (v := ?v12) rfl (by kernel_rfl) (by kernel_rfl) (by kernel_rfl) (fun _ _ _ h => h) (Or.inl ⟨by rfl, ?hy12⟩) hHeld ?rest12
    case hy12 => (intro w hSw; (try dsimp only at hSw); go_simp; try with_reducible rfl)
    try simp only [Act.put, List.setIfInBounds_toArray, List.set_cons_zero, List.set_cons_succ]
    refine' wpAnyH_take (i := 4) (v := ?v13) rfl (by kernel_rfl) (by kernel_rfl) (by kernel_rfl) (fun _ _ _ h => h) (Or.inl ⟨by rfl, ?hy13⟩) hHeld ?rest13
    case hy13 => (intro w hSw; (try dsimp only at hSw); go_simp; try with_reducible rfl)
    try simp only [Act.put, List.setIfInBounds_toArray, List.set_cons_zero, List.set_cons_succ]
    refine' wpAnyH_take (i := 6) (v := ?v14) rfl (by kernel_rfl) (by kernel_rfl) (by kernel_rfl) (fun _ _ _ h => h) (Or.inl ⟨by rfl, ?hy14⟩) hHeld ?rest14
    case hy14 => (intro w hSw; (try dsimp only at hSw); go_simp; try with_reducible rfl)
    try simp only [Act.put, List.setIfInBounds_toArray, List.set_cons_zero, List.set_cons_succ]
    refine wpAnyH_ready (rs := [5]) (by kernel_rfl) (by simp) ?_
    refine AllReadyH.cons rfl (fun K hK => ?_) AllReadyH.nil
    go_simp
    go_at_call 32
    refine (handle_any b be bo bt p _ (HA.out.ext (Below.refl _ _).drew) ok X x0 x1).mono ?_
    rintro e w8 ⟨rfl, hb8⟩
    have hk8 : w8.cell? ⟨gx, 0, none⟩ = some (.int .i64 X) := (RowAt.ext HX.out.drew hb8).cell (i := 0) rfl
    have c2 : w8.cell? ⟨w.heap.size, 0, none⟩ = some (.int .i64 0) := (RowAt.ext H4.out.drew hb8).cell (i := 0) rfl
    have f2 : w8.frozen? ⟨w.heap.size, 0, none⟩ = false := (RowAt.ext H4.out.drew hb8).frozen 0
    have H8 := Lib.hid hb8
    clear hb8
    refine hK.out _ _ hk8 (fun hHeld => ?_)
    clear hK K
    try simp only [Act.put, List.setIfInBounds_toArray, List.set_cons_zero, List.set_cons_succ]
    refine' wpAnyH_take (i := 7) (v := ?v15) rfl (by kernel_rfl) (by kernel_rfl) (by kernel_rfl) (fun _ _ _ h => h) (Or.inl ⟨by rfl, ?hy15⟩) hHeld ?rest15
    case hy15 => (intro w hSw; (try dsimp only at hSw); go_simp; try with_reducible rfl)
    try simp only [Act.put, List.setIfInBounds_toArray, List.set_cons_zero, List.set_cons_succ]
    refine' wpAnyH_take (i := 8) (v := ?v16) rfl (by kernel_rfl) (by kernel_rfl) (by kernel_rfl) (fun _ _ _ h => h) (Or.inl ⟨by rfl, ?hy16⟩) hHeld ?rest16
    case hy16 => (intro w hSw; (try dsimp only at hSw); go_simp; try with_reducible rfl)
    try simp only [Act.put, List.setIfInBounds_toArray, List.set_cons_zero, List.set_cons_succ]
    refine wpAnyH_ready (rs := [9]) (by kernel_rfl) (by simp) ?_
    refine AllReadyH.cons rfl (fun K hK => ?_) AllReadyH.nil
    go_simp
    refine hK.out _ _ (by rw [World.cell?_setCell_other _ _ _ _ (fun e => hgx (by cases e; rfl))]; exact hk8) (fun hHeld => ?_)
    clear hK K
    try simp only [Act.put, List.setIfInBounds_toArray, List.set_cons_zero, List.set_cons_succ]
    refine wpAnyH_ready (rs := [10]) (by kernel_rfl) (by simp) ?_
    refine AllReadyH.cons rfl (fun K hK => ?_) AllReadyH.nil
    go_simp
    refine hK.out _ _ hHeld (fun hHeld => ?_)
    clear hK K
    try simp only [Act.put, List.setIfInBounds_toArray, List.set_cons_zero, List.set_cons_succ]
    refine wpAnyH_done (by kernel_rfl) ?_ _
    dsimp only [Exit.then]
    refine k_name (Pr := fun W' => RowAt W' w.heap.size #[.int .i64 X] 71 ∧ Below w.heap.size w W') ⟨(RowAt.ext H4.out.drew H8.out).set 0 _, below_set (below_then HB.out (below_then (Below.refl _ _).drew H8.out)) (Nat.le_refl _) _⟩ ?_
    clear HA H4 HB HX hk0 c1 f1 hHeld H8 c2 f2 hk8
    rintro W6 ⟨h6, hB6⟩
    go_at_K
    go_wp2_with fail
    exact bodyPost_ret (v := .tuple #[.agg #[.int .i64 X], .bool (hv p X == h)]) (results_row_tmp (P := Tryd.prog) rfl _ _ w.heap.size 71 #[.int .i64 X] (0, 0) _ rfl h6 Tryd.underlying71 rfl plInfo (.bool (hv p X == h)) rfl) rfl ⟨rfl, hB6⟩
  | false =>
    refine wp_region_held_drew (S := (fun w' => w'.cell? ⟨gx, 0, none⟩ = some (.int .i64 X))) (by kernel_rfl) hk0 (fun hHeld => ?_)
    refine' wpAnyH_take (i := 0) (v := ?v17) rfl (by kernel_rfl) (by kernel_rfl) (by kernel_rfl) (fun _ _ _ h => h) (Or.inl ⟨by rfl, ?hy17⟩) hHeld ?rest17
    case hy17 => (intro w hSw; (try dsimp only at hSw); go_simp; try with_reducible rfl)
    try simp only [Act.put, List.setIfInBounds_toArray, List.set_cons_zero, List.set_cons_succ]
    refine' wpAnyH_take (i := 1) (v := ?v18) rfl (by kernel_rfl) (by kernel_rfl) (by kernel_rfl) (fun _ _ _ h => h) (Or.inl ⟨by rfl, ?hy18⟩) hHeld ?rest18
    case hy18 => (intro w hSw; (try dsimp only at hSw); go_simp; try with_reducible rfl)
    try simp only [Act.put, List.setIfInBounds_toArray, List.set_cons_zero, List.set_cons_succ]
    refine' wpAnyH_take (i := 2) (v := ?v19) rfl (by kernel_rfl) (by kernel_rfl) (by kernel_rfl) (fun _ _ _ h => h) (Or.inl ⟨by rfl, ?hy19⟩) hHeld ?rest19
    case hy19 => (intro w hSw; (try dsimp only at hSw); go_simp; try with_reducible rfl)
    try simp only [Act.put, List.setIfInBounds_toArray, List.set_cons_zero, List.set_cons_succ]
    refine' wpAnyH_take (i := 3) (v := undef) rfl (by kernel_rfl) (by kernel_rfl) (by kernel_rfl) (fun _ _ _ h => h) (Or.inr ⟨by rfl, rfl⟩) hHeld ?_
    try simp only [Act.put, List.setIfInBounds_toArray, List.set_cons_zero, List.set_cons_succ]
    refine' wpAnyH_take (i := 4) (v := undef) rfl (by kernel_rfl) (by kernel_rfl) (by kernel_rfl) (fun _ _ _ h => h) (Or.inr ⟨by rfl, rfl⟩) hHeld ?_
    try simp only [Act.put, List.setIfInBounds_toArray, List.set_cons_zero, List.set_cons_succ]
    refine' wpAnyH_take (i := 5) (v := undef) rfl (by kernel_rfl) (by kernel_rfl) (by kernel_rfl) (fun _ _ _ h => h) (Or.inr ⟨by rfl, rfl⟩) hHeld ?_
    try simp only [Act.put, List.setIfInBounds_toArray, List.set_cons_zero, List.set_cons_succ]
    refine' wpAnyH_take (i := 6) (v := undef) rfl (by kernel_rfl) (by kernel_rfl) (by kernel_rfl) (fun _ _ _ h => h) (Or.inr ⟨by rfl, rfl⟩) hHeld ?_
    try simp only [Act.put, List.setIfInBounds_toArray, List.set_cons_zero, List.set_cons_succ]
    refine' wpAnyH_take (i := 7) (v := undef) rfl (by kernel_rfl) (by kernel_rfl) (by kernel_rfl) (fun _ _ _ h => h) (Or.inr ⟨by rfl, rfl⟩) hHeld ?_
    try simp only [Act.put, List.setIfInBounds_toArray, List.set_cons_zero, List.set_cons_succ]
    refine' wpAnyH_take (i := 8) (v := ?v20) rfl (by kernel_rfl) (by kernel_rfl) (by kernel_rfl) (fun _ _ _ h => h) (Or.inl ⟨by rfl, ?hy20⟩) hHeld ?rest20
    case hy20 => (intro w hSw; (try dsimp only at hSw); go_simp; try with_reducible rfl)
    try simp only [Act.put, List.setIfInBounds_toArray, List.set_cons_zero, List.set_cons_succ]
    refine wpAnyH_ready (rs := [9]) (by kernel_rfl) (by simp) ?_
    refine AllReadyH.cons rfl (fun K hK => ?_) AllReadyH.nil
    go_simp
    refine hK.out _ _ (by first | (rw [World.cell?_setCell_other _ _ _ _ (fun e => hgx (by cases e; rfl))]; exact hk0) | exact ((RowAt.other HX.out (p := ⟨w.heap.size, 0, none⟩) hgx _).drew.cell (i := 0) rfl)) (fun hHeld => ?_)
    clear hK K
    try simp only [Act.put, List.setIfInBounds_toArray, List.set_cons_zero, List.set_cons_succ]
    refine wpAnyH_ready (rs := [10]) (by kernel_rfl) (by simp) ?_
    refine AllReadyH.cons rfl (fun K hK => ?_) AllReadyH.nil
    go_simp
    refine hK.out _ _ hHeld (fun hHeld => ?_)
    clear hK K
    try simp only [Act.put, List.setIfInBounds_toArray, List.set_cons_zero, List.set_cons_succ]
    refine wpAnyH_done (by kernel_rfl) ?_ _
    dsimp only [Exit.then]
    refine k_name (Pr := fun W' => RowAt W' w.heap.size #[.int .i64 X] 71 ∧ Below w.heap.size w W') ⟨H4.out.drew.set 0 _, below_set (below_then HB.out (Below.refl _ _).drew) (Nat.le_refl _) _⟩ ?_
    clear HA H4 HB HX hk0 c1 f1 hHeld
    rintro W6 ⟨h6, hB6⟩
    go_at_K
    go_wp2_with fail
    exact bodyPost_ret (v := .tuple #[.agg #[.int .i64 X], .bool false]) (results_row_tmp (P := Tryd.prog) rfl _ _ w.heap.size 71 #[.int .i64 X] (0, 0) _ rfl h6 Tryd.underlying71 rfl plInfo (.bool false) rfl) rfl ⟨rfl, hB6⟩
end Go.Proofs.YtelnembjcgkiaaaDoor
