/- Chains at keys of two numbers: First, Len, Key, New. -/
import Derived.Test.YtelnembjcgkiaaaChB
import Derived.Deep.RegionHeld3
import Derived.Deep.RegionWith
import Derived.Laws.MakeOwn
namespace Go.Proofs.Ytelnembjcgkiaaa
open Go.RowKit
set_option linter.unusedVariables false
set_option linter.unusedSimpArgs false

theorem wpQuiet_field_at {P : Program} {ops : Array Oper} {C : World → Prop} {Q : Act → Prop} {a : Act} {o : Oper} {rest : List Oper} (hw : Region.wanted o (yielded ops a.tmps) = true) (t : TypeId) (x : Operand) (i : Nat) (hop : o.op = Op.field t x i) (u v : Value) (hx : a.eval x = u)
    (h : ∀ w, (Instr.field t u i).run P w = .ok v w) (hk : wpQuiet P ops C Q rest (a.put o.dst v)) : wpQuiet P ops C Q (o :: rest) a :=
  wpQuiet_run hw v (fun w _ => by simp [execOp, hop, hx, h w, Result.andThen]) hk
theorem run_n (a b c : Int) (w : World) : (Instr.field 65 (.agg #[.int .i64 a, .int .i64 b, .int .i64 c]) 2).run Try.prog w = .ok (.int .i64 c) w := by kernel_rfl
def e1 (F : List Nat) : Int × Int × Int := (headV F).getD (0, 0, 0)
theorem len_e1 (F : List Nat) : (e1 F).2.2 = (F.length : Int) := by
  unfold e1 headV
  by_cases h : F = []
  · subst h; rfl
  · rw [if_neg h]; rfl
theorem first_e1 (F : List Nat) (h : F ≠ []) : (e1 F).1 = headI F := by
  unfold e1 headV
  rw [if_neg h]; rfl
theorem val_e1 {M : List (Ent (Int × Int))} {L : List ((Int × Int) × Nat)} (h : ∀ k, valL k M = (headV (ofK L k)).map endV) (k : Int × Int) :
    (valL k M).getD (.agg #[.int .i64 0, .int .i64 0, .int .i64 0]) = .agg #[.int .i64 (e1 (ofK L k)).1, .int .i64 (e1 (ofK L k)).2.1, .int .i64 (e1 (ofK L k)).2.2] := by
  rw [h k]
  unfold e1
  cases headV (ofK L k) <;> rfl
theorem val_some {M : List (Ent (Int × Int))} {L : List ((Int × Int) × Nat)} (h : ∀ k, valL k M = (headV (ofK L k)).map endV) (k : Int × Int) : (valL k M).isSome = !(ofK L k).isEmpty := by
  rw [h k]
  unfold headV
  cases ofK L k <;> rfl
set_option maxHeartbeats 8000000 in
set_option maxRecDepth 100000 in
theorem len_nil (k : Int × Int) (w : World) :
    Calls Try.prog 13 #[.pointer none, ek k] w fun e w' => e = .returned (.int .i64 0) ∧ Below w.heap.size w w' := by
  unfold ek
  go_enter Try.func13, Try.ntmps13
  go_wp2_with fail
  go_ret
  exact ⟨rfl, below_new (Below.refl _ _) _⟩
set_option maxHeartbeats 8000000 in
set_option maxRecDepth 100000 in
theorem len_any (b bm bl n : Nat) (L : List ((Int × Int) × Nat)) (lk : Nat → Lk (Int × Int)) (w : World) (hA : ChAt w b bm bl n L lk) (k : Int × Int) :
    Calls Try.prog 13 #[.pointer (some ⟨b, 0, none⟩), ek k] w fun e w' => e = .returned (.int .i64 (ofK L k).length) ∧ Below w.heap.size w w' := by
  obtain ⟨M, c, cp, q⟩ := hA
  obtain ⟨k1, k2⟩ := k
  unfold ek
  go_enter Try.func13, Try.ntmps13
  go_upto_region 3 with fail
  refine wp_name (Pr := fun W => ChIn W b bm bl n cp L lk M c ∧ RowAt W w.heap.size #[.int .i64 k1, .int .i64 k2] 28 ∧ Below w.heap.size w W) ⟨q.ext (below_new (Below.refl _ _) _), RowAt.new w _ _, below_new (Below.refl _ _) _⟩ ?_
  clear q
  rintro W ⟨q, hX, hB⟩
  obtain ⟨hkR, _⟩ := Ext.cells q.row
  obtain ⟨hkX, _⟩ := Ext.cells hX
  have s0 : ∀ y : Ext W.heap.size W, y.world.cell? ⟨b, 0, none⟩ = some (.map (some bm)) := fun y => hkR y 0
  have s1 : ∀ y : Ext W.heap.size W, y.world.cell? ⟨w.heap.size, 0, none⟩ = some (.int .i64 k1) := fun y => hkX y 0
  have s2 : ∀ y : Ext W.heap.size W, y.world.cell? ⟨w.heap.size, 1, none⟩ = some (.int .i64 k2) := fun y => hkX y 1
  have HM := Lib.hid (map_at_ext q.m)
  have HV := Lib.hid (val_e1 q.v (k1, k2))
  have HV2 := Lib.hid (val_some q.v (k1, k2))
  have HB := Lib.hid hB
  clear q hX hB hkR hkX
  refine wp_start (w := W) ?_
  intro x
  refine wp_region_ext _ (by kernel_rfl) (by kernel_rfl) ?_
  repeat (first | (refine wpQuiet_lookup_at rfl (.tmp 10) (.tmp 11) rfl keyEnc_ek Try.underlying58 (.agg #[.int .i64 0, .int .i64 0, .int .i64 0]) (fun w => by kernel_rfl) (fun w' hw' => HM.out w' hw') rfl (k1, k2) rfl _ HV.out ?_; simp only [Act.put, List.setIfInBounds_toArray, List.set_cons_succ, List.set_cons_zero]) | (refine wpQuiet_field_at rfl 65 (.tmp 12) 2 rfl _ _ rfl (run_n _ _ _) ?_; simp only [Act.put, List.setIfInBounds_toArray, List.set_cons_succ, List.set_cons_zero]) | go_big_quiet_step (fail))
  refine wpQuiet_nil ?_
  rintro _ ⟨y, rfl⟩
  go_wp2_with fail
  go_ret
  exact ⟨ret_int (len_e1 _), below_then HB.out y.ok⟩
set_option maxHeartbeats 8000000 in
set_option maxRecDepth 100000 in
theorem first_nil (k : Int × Int) (w : World) :
    Calls Try.prog 10 #[.pointer none, ek k] w fun e w' => e = .returned (.int .i64 (-1)) ∧ Below w.heap.size w w' := by
  unfold ek
  go_enter Try.func10, Try.ntmps10
  go_wp2_with fail
  go_ret
  exact ⟨rfl, below_new (Below.refl _ _) _⟩
set_option maxHeartbeats 8000000 in
set_option maxRecDepth 100000 in
theorem first_any (b bm bl n : Nat) (L : List ((Int × Int) × Nat)) (lk : Nat → Lk (Int × Int)) (w : World) (hA : ChAt w b bm bl n L lk) (k : Int × Int) :
    Calls Try.prog 10 #[.pointer (some ⟨b, 0, none⟩), ek k] w fun e w' => e = .returned (.int .i64 (headI (ofK L k))) ∧ Below w.heap.size w w' := by
  obtain ⟨M, c, cp, q⟩ := hA
  obtain ⟨k1, k2⟩ := k
  unfold ek
  go_enter Try.func10, Try.ntmps10
  go_upto_region 3 with fail
  refine wp_name (Pr := fun W => ChIn W b bm bl n cp L lk M c ∧ RowAt W w.heap.size #[.int .i64 k1, .int .i64 k2] 28 ∧ Below w.heap.size w W) ⟨q.ext (below_new (Below.refl _ _) _), RowAt.new w _ _, below_new (Below.refl _ _) _⟩ ?_
  clear q
  rintro W ⟨q, hX, hB⟩
  obtain ⟨hkR, _⟩ := Ext.cells q.row
  obtain ⟨hkX, _⟩ := Ext.cells hX
  have s0 : ∀ y : Ext W.heap.size W, y.world.cell? ⟨b, 0, none⟩ = some (.map (some bm)) := fun y => hkR y 0
  have s1 : ∀ y : Ext W.heap.size W, y.world.cell? ⟨w.heap.size, 0, none⟩ = some (.int .i64 k1) := fun y => hkX y 0
  have s2 : ∀ y : Ext W.heap.size W, y.world.cell? ⟨w.heap.size, 1, none⟩ = some (.int .i64 k2) := fun y => hkX y 1
  have HM := Lib.hid (map_at_ext q.m)
  have HV := Lib.hid (val_e1 q.v (k1, k2))
  have HV2 := Lib.hid (val_some q.v (k1, k2))
  have HB := Lib.hid hB
  have m0 := q.m.drew
  have m1 := (q.m.alloc (.cells #[.int .i64 0, .int .i64 0, .int .i64 0] 65 (0, 0))).drew
  have r0 := run_lookup_at keyEnc_ek Try.underlying58 (z := .agg #[.int .i64 0, .int .i64 0, .int .i64 0]) (by kernel_rfl) m0 (k1, k2) true
  have r1 := run_lookup_at keyEnc_ek Try.underlying58 (z := .agg #[.int .i64 0, .int .i64 0, .int .i64 0]) (by kernel_rfl) m1 (k1, k2) true
  simp only [if_true] at r0 r1
  rw [HV.out, HV2.out] at r0 r1
  unfold ek at r0 r1
  obtain ⟨E1, hE1⟩ : ∃ E, (e1 (ofK L (k1, k2))).1 = E := ⟨_, rfl⟩
  obtain ⟨E2, hE2⟩ : ∃ E, (e1 (ofK L (k1, k2))).2.1 = E := ⟨_, rfl⟩
  obtain ⟨E3, hE3⟩ : ∃ E, (e1 (ofK L (k1, k2))).2.2 = E := ⟨_, rfl⟩
  obtain ⟨t, ht⟩ : ∃ t, (ofK L (k1, k2)).isEmpty = t := ⟨_, rfl⟩
  rw [hE1, hE2, hE3, ht] at r0 r1
  have HE1 := Lib.hid hE1
  have HT := Lib.hid ht
  have HS := Lib.hid (fun w' (h : Below W.heap.size W w') => (show w'.cell? ⟨b, 0, none⟩ = some (.map (some bm)) ∧ w'.cell? ⟨w.heap.size, 0, none⟩ = some (.int .i64 k1) ∧ w'.cell? ⟨w.heap.size, 1, none⟩ = some (.int .i64 k2) from ⟨s0 ⟨_, h⟩, s1 ⟨_, h⟩, s2 ⟨_, h⟩⟩))
  clear q hX hB hkR hkX m0 m1 hE1 hE2 hE3 ht s0 s1 s2
  go_region_held3 (fun w' => w'.cell? ⟨b, 0, none⟩ = some (.map (some bm)) ∧ w'.cell? ⟨w.heap.size, 0, none⟩ = some (.int .i64 k1) ∧ w'.cell? ⟨w.heap.size, 1, none⟩ = some (.int .i64 k2))
    (first | exact HS.out _ (Below.refl _ _).drew | exact HS.out _ (below_new (Below.refl _ _) _).drew)
    (fail)
  all_goals
    dsimp only [Exit.then]
    refine k_name (Pr := fun W' => RowAt W' W.heap.size #[.int .i64 E1, .int .i64 E2, .int .i64 E3] 65 ∧ Below w.heap.size w W') ⟨(RowAt.new W _ _).drew, (below_new HB.out _).drew⟩ ?_
    rintro W6 ⟨h6, hB6⟩
    have HB6 := Lib.hid hB6
    have g0 := h6.cell (i := 0) rfl
    clear h6 hB6
    go_at_K
    cases t with
    | true =>
      go_wp2_with fail
      go_ret
      have h0 : ofK L (k1, k2) = [] := by have := HT.out; simpa using this
      rw [h0]
      exact ⟨rfl, HB6.out⟩
    | false =>
      go_wp2_with fail
      go_ret
      have h0 : ofK L (k1, k2) ≠ [] := by have := HT.out; simpa using this
      exact ⟨ret_int (HE1.out.symm.trans (first_e1 _ h0)), HB6.out⟩
end Go.Proofs.Ytelnembjcgkiaaa
