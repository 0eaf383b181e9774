/- The pool: Get, Place, Live. -/
import Derived.Test.YtelnembjcgkiaaaDoorPoE
namespace Go.Proofs.YtelnembjcgkiaaaDoor
open Go.RowKit
set_option linter.unusedVariables false
set_option linter.unusedSimpArgs false

def gotE (p : Po) (h : Int) : Int × Int × Int := if (findI p h).2 = true then (p.ent (h % 4096)).getD (0, 0, 0) else (0, 0, 0)
set_option maxHeartbeats 8000000 in
set_option maxRecDepth 100000 in
theorem place_nil (h : Int) (w : World) :
    Calls Tryd.prog 12 #[.pointer none, .int .u64 h] w fun e w' => e = .returned (.int .i64 (-1)) ∧ Below w.heap.size w w' := by
  go_enter Tryd.func12, Tryd.ntmps12
  go_wp2_with (go_at_call 33; refine (find_nil _ _).mono ?_; rintro e w1 ⟨rfl, hb1⟩)
  go_ret
  exact ⟨rfl, below_new hb1 _⟩
set_option maxHeartbeats 8000000 in
set_option maxRecDepth 100000 in
theorem place_yes (b be bo bt : Nat) (p : Po) (w : World) (hA : PoAt w b be bo bt p) (ok : p.ok) (h : Int) (h0 : 0 ≤ h) (h1 : h ≤ 18446744073709551615) (hf : (findI p h).2 = true) :
    Calls Tryd.prog 12 #[.pointer (some ⟨b, 0, none⟩), .int .u64 h] w fun e w' => e = .returned ((.int .i64 (h % 4096))) ∧ Below w.heap.size w w' := by
  have hc := find_any b be bo bt p w hA ok h h0 h1
  rw [hf] at hc
  have HC := Lib.hid hc
  clear hc hf
  go_enter Tryd.func12, Tryd.ntmps12
  go_wp2_with (go_at_call 33; refine HC.out.mono ?_; rintro e w1 ⟨rfl, hb1⟩; dsimp only [findI])
  go_ret
  exact ⟨rfl, below_new hb1 _⟩
set_option maxHeartbeats 8000000 in
set_option maxRecDepth 100000 in
theorem place_no (b be bo bt : Nat) (p : Po) (w : World) (hA : PoAt w b be bo bt p) (ok : p.ok) (h : Int) (h0 : 0 ≤ h) (h1 : h ≤ 18446744073709551615) (hf : (findI p h).2 = false) :
    Calls Tryd.prog 12 #[.pointer (some ⟨b, 0, none⟩), .int .u64 h] w fun e w' => e = .returned ((.int .i64 (-1))) ∧ Below w.heap.size w w' := by
  have hc := find_any b be bo bt p w hA ok h h0 h1
  rw [hf] at hc
  have HC := Lib.hid hc
  clear hc hf
  go_enter Tryd.func12, Tryd.ntmps12
  go_wp2_with (go_at_call 33; refine HC.out.mono ?_; rintro e w1 ⟨rfl, hb1⟩; dsimp only [findI])
  go_ret
  exact ⟨rfl, below_new hb1 _⟩
set_option maxHeartbeats 8000000 in
set_option maxRecDepth 100000 in
theorem live_nil (w : World) :
    Calls Tryd.prog 13 #[.pointer none] w fun e w' => e = .returned (.int .i64 0) ∧ Below w.heap.size w w' := by
  go_enter Tryd.func13, Tryd.ntmps13
  go_wp2_with fail
  go_ret
  exact ⟨rfl, Below.refl _ _⟩
theorem run_len_at {κ : Type} [DecidableEq κ] {P : Program} {w : World} {b : Nat} {enc : κ → Value} {L : List (Ent κ)} {clock : Nat} {kt et mt : TypeId} (ht : P.underlying mt = some (.map kt et)) (h : MapAt w b enc L clock) (ty : TypeId) :
    (Builtin.len_ #[mt] ty #[.map (some b)]).run P w = .ok (.int .i64 L.length) w := by
  have hgo : (getObj b).run P w = .ok (.map (L.map (Ent.obj enc)).toArray clock) w := run_getObj_some h
  simp [Builtin.len_, run_underlying ht, hgo, Sem.run_bind, Result.andThen, goInt]
set_option maxHeartbeats 8000000 in
set_option maxRecDepth 100000 in
theorem live_any (b be bo bt : Nat) (p : Po) (w : World) (hA : PoAt w b be bo bt p) :
    Calls Tryd.prog 13 #[.pointer (some ⟨b, 0, none⟩)] w fun e w' => e = .returned (.int .i64 p.cnt) ∧ Below w.heap.size w w' := by
  obtain ⟨M1, c1, M2, c2, ws, q⟩ := hA
  have c0 : w.cell? ⟨b, 0, none⟩ = some (.map (some be)) := q.row.cell (i := 0) rfl
  have HL := Lib.hid q.len
  have hq := run_len_at Tryd.underlying66 q.m1 3
  rw [HL.out] at hq
  clear q
  go_enter Tryd.func13, Tryd.ntmps13
  go_wp2_with (first | simp only [hq] | fail)
  go_ret
  exact ⟨rfl, Below.refl _ _⟩
set_option maxHeartbeats 8000000 in
set_option maxRecDepth 100000 in
theorem get_nil (h : Int) (w : World) :
    Calls Tryd.prog 11 #[.pointer none, .int .u64 h] w fun e w' => e = .returned (.tuple #[.agg #[.int .u64 0, .int .u64 0, .int .u64 0], .bool false]) ∧ Below w.heap.size w w' := by
  go_enter Tryd.func11, Tryd.ntmps11
  go_upto_region 1 with fail
  refine wp_name (Pr := fun W => RowAt W w.heap.size #[.int .u64 0, .int .u64 0, .int .u64 0] 32 ∧ Below w.heap.size w W) ⟨RowAt.new w _ _, below_new (Below.refl _ _) _⟩ ?_
  rintro W ⟨hz, hB⟩
  have HZ := Lib.hid hz
  have HB := Lib.hid hB
  clear hz hB
  go_upto_region 2 with (go_at_call 33; refine (find_nil _ _).mono ?_; rintro e w1 ⟨rfl, hb1⟩)
  refine wp_name (Pr := fun W => RowAt W w.heap.size #[.int .u64 0, .int .u64 0, .int .u64 0] 32 ∧ RowAt W w1.heap.size #[.int .i64 0] 71 ∧ Below w.heap.size w W) ⟨(RowAt.ext HZ.out hb1).alloc _, RowAt.new w1 _ _, below_new (below_then HB.out hb1) _⟩ ?_
  have hgx0 : w.heap.size < w1.heap.size := (RowAt.ext HZ.out hb1).lt
  clear HZ HB hb1 hgx0
  rintro W2 ⟨hz, -, hB⟩
  have z0 : W2.cell? ⟨w.heap.size, 0, none⟩ = some (.int .u64 0) := hz.cell (i := 0) rfl
  have z1 : W2.cell? ⟨w.heap.size, 1, none⟩ = some (.int .u64 0) := hz.cell (i := 1) rfl
  have z2 : W2.cell? ⟨w.heap.size, 2, none⟩ = some (.int .u64 0) := hz.cell (i := 2) rfl
  have zf := RowAt.frozen hz
  have HZ := Lib.hid hz
  have HB := Lib.hid hB
  clear hz hB
  go_wp2_with fail
  exact bodyPost_ret (v := .tuple #[.agg #[.int .u64 0, .int .u64 0, .int .u64 0], .bool false]) (results_row_tmp (P := Tryd.prog) rfl _ _ w.heap.size 32 #[.int .u64 0, .int .u64 0, .int .u64 0] (0, 0) _ rfl ((((HZ.out).set 0 (.int .u64 0)).set 1 (.int .u64 0)).set 2 (.int .u64 0)) Tryd.underlying32 rfl enInfo (.bool false) rfl) rfl ⟨rfl, below_set (below_set (below_set HB.out (Nat.le_refl _) _) (Nat.le_refl _) _) (Nat.le_refl _) _⟩
set_option maxHeartbeats 8000000 in
set_option maxRecDepth 100000 in
theorem get_no (b be bo bt : Nat) (p : Po) (w : World) (hA : PoAt w b be bo bt p) (ok : p.ok) (h : Int) (h0 : 0 ≤ h) (h1 : h ≤ 18446744073709551615) (hf : (findI p h).2 = false) :
    Calls Tryd.prog 11 #[.pointer (some ⟨b, 0, none⟩), .int .u64 h] w fun e w' => e = .returned (.tuple #[.agg #[.int .u64 0, .int .u64 0, .int .u64 0], .bool false]) ∧ Below w.heap.size w w' := by
  go_enter Tryd.func11, Tryd.ntmps11
  go_upto_region 1 with fail
  refine wp_name (Pr := fun W => RowAt W w.heap.size #[.int .u64 0, .int .u64 0, .int .u64 0] 32 ∧ Below w.heap.size w W) ⟨RowAt.new w _ _, below_new (Below.refl _ _) _⟩ ?_
  rintro W ⟨hz, hB⟩
  have hc := find_any b be bo bt p W (hA.ext hB) ok h h0 h1
  rw [hf] at hc
  have HC := Lib.hid hc
  clear hc
  have HZ := Lib.hid hz
  have HB := Lib.hid hB
  clear hz hB
  go_upto_region 2 with (go_at_call 33; refine HC.out.mono ?_; rintro e w1 ⟨rfl, hb1⟩; dsimp only [findI])
  refine wp_name (Pr := fun W => RowAt W w.heap.size #[.int .u64 0, .int .u64 0, .int .u64 0] 32 ∧ RowAt W w1.heap.size #[.int .i64 (h % 4096)] 71 ∧ Below w.heap.size w W) ⟨(RowAt.ext HZ.out hb1).alloc _, RowAt.new w1 _ _, below_new (below_then HB.out hb1) _⟩ ?_
  have hgx0 : w.heap.size < w1.heap.size := (RowAt.ext HZ.out hb1).lt
  clear HZ HB hb1 hgx0
  rintro W2 ⟨hz, -, hB⟩
  have z0 : W2.cell? ⟨w.heap.size, 0, none⟩ = some (.int .u64 0) := hz.cell (i := 0) rfl
  have z1 : W2.cell? ⟨w.heap.size, 1, none⟩ = some (.int .u64 0) := hz.cell (i := 1) rfl
  have z2 : W2.cell? ⟨w.heap.size, 2, none⟩ = some (.int .u64 0) := hz.cell (i := 2) rfl
  have zf := RowAt.frozen hz
  have HZ := Lib.hid hz
  have HB := Lib.hid hB
  clear hz hB
  go_wp2_with fail
  exact bodyPost_ret (v := .tuple #[.agg #[.int .u64 0, .int .u64 0, .int .u64 0], .bool false]) (results_row_tmp (P := Tryd.prog) rfl _ _ w.heap.size 32 #[.int .u64 0, .int .u64 0, .int .u64 0] (0, 0) _ rfl ((((HZ.out).set 0 (.int .u64 0)).set 1 (.int .u64 0)).set 2 (.int .u64 0)) Tryd.underlying32 rfl enInfo (.bool false) rfl) rfl ⟨rfl, below_set (below_set (below_set HB.out (Nat.le_refl _) _) (Nat.le_refl _) _) (Nat.le_refl _) _⟩
set_option maxHeartbeats 8000000 in
set_option maxRecDepth 100000 in
theorem get_yes (b be bo bt : Nat) (p : Po) (w : World) (hA : PoAt w b be bo bt p) (ok : p.ok) (h : Int) (h0 : 0 ≤ h) (h1 : h ≤ 18446744073709551615) (hf : (findI p h).2 = true) :
    Calls Tryd.prog 11 #[.pointer (some ⟨b, 0, none⟩), .int .u64 h] w fun e w' => e = .returned (.tuple #[.agg #[.int .u64 ((p.ent (h % 4096)).getD (0, 0, 0)).1, .int .u64 ((p.ent (h % 4096)).getD (0, 0, 0)).2.1, .int .u64 ((p.ent (h % 4096)).getD (0, 0, 0)).2.2], .bool true]) ∧ Below w.heap.size w w' := by
  go_enter Tryd.func11, Tryd.ntmps11
  go_upto_region 1 with fail
  refine wp_name (Pr := fun W => RowAt W w.heap.size #[.int .u64 0, .int .u64 0, .int .u64 0] 32 ∧ Below w.heap.size w W) ⟨RowAt.new w _ _, below_new (Below.refl _ _) _⟩ ?_
  rintro W ⟨hz, hB⟩
  have hc := find_any b be bo bt p W (hA.ext hB) ok h h0 h1
  rw [hf] at hc
  have HC := Lib.hid hc
  clear hc
  have HZ := Lib.hid hz
  have HB := Lib.hid hB
  clear hz hB
  go_upto_region 2 with (go_at_call 33; refine HC.out.mono ?_; rintro e w1 ⟨rfl, hb1⟩; dsimp only [findI])
  refine wp_name (Pr := fun W => RowAt W w.heap.size #[.int .u64 0, .int .u64 0, .int .u64 0] 32 ∧ RowAt W w1.heap.size #[.int .i64 (h % 4096)] 71 ∧ PoAt W b be bo bt p ∧ Below w.heap.size w W) ⟨(RowAt.ext HZ.out hb1).alloc _, RowAt.new w1 _ _, (hA.ext (below_then HB.out hb1)).ext (below_new (Below.refl _ _) _), below_new (below_then HB.out hb1) _⟩ ?_
  have hgx0 : w.heap.size < w1.heap.size := (RowAt.ext HZ.out hb1).lt
  obtain ⟨gx, hgx⟩ : ∃ g, w1.heap.size = g := ⟨_, rfl⟩
  rw [hgx] at hgx0 ⊢
  clear HZ HB hb1 HC hgx
  rintro W2 ⟨hz, hX, ⟨M1, c1, M2, c2, ws, q⟩, hB⟩
  obtain ⟨X, hXe⟩ : ∃ X, h % 4096 = X := ⟨_, rfl⟩
  rw [hXe] at hX
  have HZ := Lib.hid hz
  have HB := Lib.hid hB
  have HV := Lib.hid (ent_zero q.v1 X)
  have HM := Lib.hid (map_at_ext q.m1)
  have HXE := Lib.hid hXe
  obtain ⟨hkR, _⟩ := Ext.cells q.row
  obtain ⟨hkX, _⟩ := Ext.cells hX
  obtain ⟨hkZ, hfZ⟩ := Ext.cells hz
  have s0 : ∀ y : Ext W2.heap.size W2, y.world.cell? ⟨b, 0, none⟩ = some (.map (some be)) := fun y => hkR y 0
  have sx : ∀ y : Ext W2.heap.size W2, y.world.cell? ⟨gx, 0, none⟩ = some (.int .i64 X) := fun y => hkX y 0
  have z0 : ∀ y : Ext W2.heap.size W2, y.world.cell? ⟨w.heap.size, 0, none⟩ = some (.int .u64 0) := fun y => hkZ y 0
  have z1 : ∀ y : Ext W2.heap.size W2, y.world.cell? ⟨w.heap.size, 1, none⟩ = some (.int .u64 0) := fun y => hkZ y 1
  have z2 : ∀ y : Ext W2.heap.size W2, y.world.cell? ⟨w.heap.size, 2, none⟩ = some (.int .u64 0) := fun y => hkZ y 2
  have zf : ∀ (y : Ext W2.heap.size W2) i, y.world.frozen? ⟨w.heap.size, i, none⟩ = false := fun y i => hfZ y i
  clear hz hX q hB hkR hkX hkZ hfZ hA hXe
  refine wp_start (w := W2) ?_
  intro x0
  go_upto_region 4 with fail
  refine wp_region_ext_tail _ 6 (by kernel_rfl) (by kernel_rfl) (by kernel_rfl) ?_
  simp only [List.take_succ_cons, List.take_zero, List.drop_succ_cons, List.drop_zero]
  repeat (first | (refine wpQuiet_lookup_at rfl (.tmp 20) (.tmp 21) rfl keyEnc_pl Tryd.underlying66 (.agg #[.int .u64 0, .int .u64 0, .int .u64 0]) (fun w => by kernel_rfl) (fun w' hw' => HM.out w' hw') rfl X rfl _ HV.out ?_; simp only [Act.put, List.setIfInBounds_toArray, List.set_cons_succ, List.set_cons_zero]) | go_big_quiet_step (fail))
  refine wpQuiet_nil ?_
  rintro _ ⟨y, rfl⟩
  go_wp2_with fail
  have r := (((RowAt.ext HZ.out y.ok).set 0 (.int .u64 ((p.ent X).getD (0, 0, 0)).1)).set 1 (.int .u64 ((p.ent X).getD (0, 0, 0)).2.1)).set 2 (.int .u64 ((p.ent X).getD (0, 0, 0)).2.2)
  refine bodyPost_ret (v := .tuple #[.agg #[.int .u64 ((p.ent X).getD (0, 0, 0)).1, .int .u64 ((p.ent X).getD (0, 0, 0)).2.1, .int .u64 ((p.ent X).getD (0, 0, 0)).2.2], .bool true]) (results_row_tmp (P := Tryd.prog) rfl _ _ w.heap.size 32 #[.int .u64 ((p.ent X).getD (0, 0, 0)).1, .int .u64 ((p.ent X).getD (0, 0, 0)).2.1, .int .u64 ((p.ent X).getD (0, 0, 0)).2.2] (0, 0) _ rfl r Tryd.underlying32 rfl enInfo (.bool true) rfl) rfl ⟨by rw [HXE.out], below_set (below_set (below_set (below_then HB.out y.ok) (Nat.le_refl _) _) (Nat.le_refl _) _) (Nat.le_refl _) _⟩
end Go.Proofs.YtelnembjcgkiaaaDoor
