/- The clint: Load. -/
import Derived.Test.YtaihebdjhbnhoaaClD
import Derived.Test.YtaihebdjhbnhoaaFree
namespace Go.Proofs.Ytaihebdjhbnhoaa
open Go.RowKit
set_option linter.unusedVariables false
set_option linter.unusedSimpArgs false

theorem k_name {K : Act → World → Prop} {a : Act} {W : World} {Pr : World → Prop} (h : Pr W) (k : ∀ W', Pr W' → K a W') : K a W := k W h
theorem bcell {W w1 : World} (hb : Below W.heap.size W w1) : (∀ b o, b < W.heap.size → w1.cell? ⟨b, o, none⟩ = W.cell? ⟨b, o, none⟩) ∧ (∀ b o, b < W.heap.size → w1.frozen? ⟨b, o, none⟩ = W.frozen? ⟨b, o, none⟩) :=
  ⟨fun b o h => hb.cell (p := ⟨b, o, none⟩) h, fun b o h => hb.frozen (p := ⟨b, o, none⟩) h⟩
theorem first_row {w w' : World} {cs : Array Value} {t : TypeId} (hb : Below (w.alloc (.cells cs t)).heap.size (w.alloc (.cells cs t)) w') : RowAt w' w.heap.size cs t := RowAt.ext (RowAt.new w cs t) hb
theorem cell_next {w w' : World} {a : Addr} {v : Value} (h : w.cell? a = some v) (hb : Below w.heap.size w w') : w'.cell? a = some v := (hb.cell (World.block_lt_of_cell? w a h)).trans h
def wordI (c : Cl) (p : Int × Int) : Int :=
  if p.1 = 1 then c.soft p.2.toNat else if p.1 = 2 then c.cmp p.2.toNat % 4294967296 else if p.1 = 3 then c.cmp p.2.toNat / 4294967296 else if p.1 = 4 then c.time % 4294967296 else c.time / 4294967296
def loadI (c : Cl) (off : Int) : Int × Int :=
  if off % 4 ≠ 0 then (0, 11) else match pl c.n off with
    | some p => (wordI c p, 0)
    | none => (0, 10)
set_option maxHeartbeats 8000000 in
set_option maxRecDepth 100000 in
theorem load_nil (off : Int) (w : World) :
    Calls Try.prog 37 #[.pointer none, .int .u32 off] w fun e w' => e = .returned (.tuple #[.int .u32 0, .int .i64 10]) ∧ Below w.heap.size w w' := by
  go_enter Try.func37, Try.ntmps37
  go_wp2_with (go_at_call 51; refine (find_nil _ _).mono ?_; rintro e w1 ⟨rfl, hb1⟩)
  go_ret2
  exact ⟨rfl, below_new hb1 _⟩
set_option maxHeartbeats 8000000 in
set_option maxRecDepth 100000 in
theorem load_odd (b : Nat) (c : Cl) (w : World) (hA : ClAt w b c) (off : Int) (o0 : 0 ≤ off) (h : off % 4 ≠ 0) :
    Calls Try.prog 37 #[.pointer (some ⟨b, 0, none⟩), .int .u32 off] w fun e w' => e = .returned (.tuple #[.int .u32 0, .int .i64 11]) ∧ Below w.heap.size w w' := by
  have HA := Lib.hid hA
  have HH := Lib.hid h
  clear hA h
  go_enter Try.func37, Try.ntmps37
  go_wp2_with (go_at_call 51; refine (find_odd b c _ HA.out off o0 HH.out).mono ?_; rintro e w1 ⟨rfl, hb1⟩)
  go_ret2
  exact ⟨rfl, below_new hb1 _⟩
set_option maxHeartbeats 8000000 in
set_option maxRecDepth 100000 in
theorem load_none (b : Nat) (c : Cl) (w : World) (hA : ClAt w b c) (hn : c.n ≤ 8) (off : Int) (o0 : 0 ≤ off) (h : off % 4 = 0) (hp : pl c.n off = none) :
    Calls Try.prog 37 #[.pointer (some ⟨b, 0, none⟩), .int .u32 off] w fun e w' => e = .returned (.tuple #[.int .u32 0, .int .i64 10]) ∧ Below w.heap.size w w' := by
  have HA := Lib.hid hA
  have HH := Lib.hid h
  have HP := Lib.hid hp
  clear hA h hp
  go_enter Try.func37, Try.ntmps37
  go_wp2_with (go_at_call 51; refine (find_none b c _ HA.out hn off o0 HH.out HP.out).mono ?_; rintro e w1 ⟨rfl, hb1⟩)
  go_ret2
  exact ⟨rfl, below_new hb1 _⟩
set_option maxHeartbeats 8000000 in
set_option maxRecDepth 100000 in
theorem load_1 (b : Nat) (c : Cl) (w : World) (hA : ClAt w b c) (ok : c.ok) (off : Int) (o0 : 0 ≤ off) (h : off % 4 = 0) (k : Nat) (hk : k < 8) (hp : pl c.n off = some (1, (k : Int))) :
    Calls Try.prog 37 #[.pointer (some ⟨b, 0, none⟩), .int .u32 off] w fun e w' => e = .returned (.tuple #[.int .u32 (c.soft k), .int .i64 0]) ∧ Below w.heap.size w w' := by
  have HA := Lib.hid hA
  have HH := Lib.hid h
  have HP := Lib.hid hp
  have k0 : (0 : Int) ≤ (k : Int) := by omega
  have k8 : (k : Int) < 8 := by omega
  clear hA h hp
  go_enter Try.func37, Try.ntmps37
  go_upto_region 4 with (go_at_call 51; refine (find_some b c _ HA.out ok.n1 off o0 HH.out (1, (k : Int)) HP.out).mono ?_; rintro e w1 ⟨rfl, hb1⟩)
  have hA1 := ClAt.ext HA.out hb1
  have hblt := RowAt.lt HA.out
  have hbl1 : b < w1.heap.size := RowAt.lt hA1
  have hA2 := RowAt.alloc hA1 (.cells #[.int .i64 1, .int .i64 k] 87)
  have hP2 := RowAt.new w1 #[.int .i64 1, .int .i64 k] 87
  have hB2 := below_new hb1 (.cells #[.int .i64 1, .int .i64 k] 87)
  refine wp_name (Pr := fun W => ClAt W b c ∧ RowAt W w1.heap.size #[.int .i64 1, .int .i64 k] 87 ∧ Below w.heap.size w W) ⟨hA2, hP2, hB2⟩ ?_
  clear hA1 hA2 hP2 hB2 hb1
  rintro W ⟨hA3, hP3, hB3⟩
  obtain ⟨hkA, _⟩ := Ext.cells hA3
  obtain ⟨hkP, _⟩ := Ext.cells hP3
  have s0 : ∀ x : Ext W.heap.size W, x.world.cell? ⟨w1.heap.size, 1, none⟩ = some (.int .i64 k) := fun x => hkP x 1
  have s1 : ∀ x : Ext W.heap.size W, x.world.cell? ⟨b, 1 + k * 2, none⟩ = some (.int .u64 (c.cmp k)) := fun x => (hkA x _).trans (c.cell_cmp hk)
  have s2 : ∀ x : Ext W.heap.size W, x.world.cell? ⟨b, 1 + k * 2 + 1, none⟩ = some (.int .u32 (c.soft k)) := fun x => (hkA x _).trans (c.cell_soft hk)
  have HA3 := Lib.hid hA3
  have HP3 := Lib.hid hP3
  have HB3 := Lib.hid hB3
  clear hA3 hP3 hB3 hkA hkP
  refine wp_start (w := W) ?_
  intro x
  refine wp_region_free1 x 8 7 (fun g => .pointer (some ⟨g, 0, none⟩)) (.cells #[.int .u64 0, .int .u32 0] 82 (0, 0)) (by kernel_rfl) (by kernel_rfl) (by decide) (fun G => by kernel_rfl) ⟨_, rfl, rfl, fun a w => by kernel_rfl⟩ ?_
  intro gh w2 hw2
  have s0 : ∀ x : Ext w2.heap.size w2, x.world.cell? ⟨w1.heap.size, 1, none⟩ = some (.int .i64 k) := fun y => s0 ⟨_, below_then hw2 y.ok⟩
  have s1 : ∀ x : Ext w2.heap.size w2, x.world.cell? ⟨b, 1 + k * 2, none⟩ = some (.int .u64 (c.cmp k)) := fun y => s1 ⟨_, below_then hw2 y.ok⟩
  have s2 : ∀ x : Ext w2.heap.size w2, x.world.cell? ⟨b, 1 + k * 2 + 1, none⟩ = some (.int .u32 (c.soft k)) := fun y => s2 ⟨_, below_then hw2 y.ok⟩
  simp only [List.take_succ_cons, List.take_zero, List.drop_succ_cons, List.drop_zero, List.modify_succ_cons, List.modify_zero_cons, made]
  repeat (go_big_quiet_step (fail))
  refine wpQuiet_nil ?_
  intro W4 hB4 hg4 hZ4
  have hZ : RowAt W4 gh #[.int .u64 0, .int .u32 0] 82 := hZ4
  have z0 : W4.cell? ⟨gh, 0, none⟩ = some (.int .u64 0) := hZ.cell (i := 0) rfl
  have z1 : W4.cell? ⟨gh, 1, none⟩ = some (.int .u32 0) := hZ.cell (i := 1) rfl
  have zf := RowAt.frozen hZ
  have hWl : w1.heap.size < W.heap.size := RowAt.lt HP3.out
  have hbW : b < W.heap.size := RowAt.lt HA3.out
  have hwW : w.heap.size ≤ W.heap.size := HB3.out.size
  clear s0 s1 s2 hZ4
  go_upto_region 5 with (fail)
  have R4 := (RowAt.set hZ 0 (.int .u64 (c.cmp k))).set 1 (.int .u32 (c.soft k))
  refine wp_name (Pr := fun W' => ClAt W' b c ∧ RowAt W' w1.heap.size #[.int .i64 1, .int .i64 k] 87 ∧ RowAt W' gh #[.int .u64 (c.cmp k), .int .u32 (c.soft k)] 82 ∧ Below w.heap.size w W')
    ⟨RowAt.other (RowAt.other (ClAt.ext HA3.out hB4) (by dsimp only; omega) _) (by dsimp only; omega) _, RowAt.other (RowAt.other (RowAt.ext HP3.out hB4) (by dsimp only; omega) _) (by dsimp only; omega) _, R4, below_set (below_set (below_then HB3.out hB4) (by dsimp only; omega) _) (by dsimp only; omega) _⟩ ?_
  have hgp : ∃ g, w1.heap.size = g := ⟨_, rfl⟩
  obtain ⟨gp, hgp⟩ := hgp
  rw [hgp] at hWl ⊢
  clear R4 hZ z0 z1 zf HA3 HP3 HB3 hgp hbl1 hB4 hw2 x
  rintro W5 ⟨hA5, hP5, hH5, hB5⟩
  obtain ⟨hkA, _⟩ := Ext.cells hA5
  obtain ⟨hkH, _⟩ := Ext.cells hH5
  have s0 : ∀ x : Ext W5.heap.size W5, x.world.cell? ⟨gh, 0, none⟩ = some (.int .u64 (c.cmp k)) := fun x => hkH x 0
  have s1 : ∀ x : Ext W5.heap.size W5, x.world.cell? ⟨gh, 1, none⟩ = some (.int .u32 (c.soft k)) := fun x => hkH x 1
  have s2 : ∀ x : Ext W5.heap.size W5, x.world.cell? ⟨b, 0, none⟩ = some (.int .u64 c.time) := fun x => hkA x 0
  have HP5 := Lib.hid hP5
  have HB5 := Lib.hid hB5
  clear hA5 hP5 hH5 hB5 hkA hkH
  refine wp_start (w := W5) ?_
  intro x
  refine wp_region_free1 x 20 19 (fun g => .pointer (some ⟨g, 0, none⟩)) (.cells #[.int .u32 0, .int .u32 0, .int .u32 0, .int .u32 0, .int .u32 0, .int .u32 0] 96 (0, 0)) (by kernel_rfl) (by kernel_rfl) (by decide) (fun G => by kernel_rfl) ⟨_, rfl, rfl, fun a w => by kernel_rfl⟩ ?_
  intro gw w2 hw2
  have s0 : ∀ x : Ext w2.heap.size w2, x.world.cell? ⟨gh, 0, none⟩ = some (.int .u64 (c.cmp k)) := fun y => s0 ⟨_, below_then hw2 y.ok⟩
  have s1 : ∀ x : Ext w2.heap.size w2, x.world.cell? ⟨gh, 1, none⟩ = some (.int .u32 (c.soft k)) := fun y => s1 ⟨_, below_then hw2 y.ok⟩
  have s2 : ∀ x : Ext w2.heap.size w2, x.world.cell? ⟨b, 0, none⟩ = some (.int .u64 c.time) := fun y => s2 ⟨_, below_then hw2 y.ok⟩
  simp only [List.take_succ_cons, List.take_zero, List.drop_succ_cons, List.drop_zero, List.modify_succ_cons, List.modify_zero_cons, made]
  repeat (go_big_quiet_step (first
    | (go_at_call 54; exact Ext.call (lo_any _ _ (by first | exact ok.c0 _ | exact ok.t0) (by first | exact ok.c1 _ | exact ok.t1)))
    | (go_at_call 53; exact Ext.call (hi_any _ _ (by first | exact ok.c0 _ | exact ok.t0) (by first | exact ok.c1 _ | exact ok.t1)))))
  refine wpQuiet_nil ?_
  intro W6 hB6 hg6 hZ6
  have hZ : RowAt W6 gw #[.int .u32 0, .int .u32 0, .int .u32 0, .int .u32 0, .int .u32 0, .int .u32 0] 96 := hZ6
  have z0 : W6.cell? ⟨gw, 0, none⟩ = some (.int .u32 0) := hZ.cell (i := 0) rfl
  have z1 : W6.cell? ⟨gw, 1, none⟩ = some (.int .u32 0) := hZ.cell (i := 1) rfl
  have z2 : W6.cell? ⟨gw, 2, none⟩ = some (.int .u32 0) := hZ.cell (i := 2) rfl
  have z3 : W6.cell? ⟨gw, 3, none⟩ = some (.int .u32 0) := hZ.cell (i := 3) rfl
  have z4 : W6.cell? ⟨gw, 4, none⟩ = some (.int .u32 0) := hZ.cell (i := 4) rfl
  have z5 : W6.cell? ⟨gw, 5, none⟩ = some (.int .u32 0) := hZ.cell (i := 5) rfl
  have zf := RowAt.frozen hZ
  have p0 : W6.cell? ⟨gp, 0, none⟩ = some (.int .i64 1) := (RowAt.ext HP5.out hB6).cell (i := 0) rfl
  have hne : gp ≠ gw := by have := RowAt.lt HP5.out; omega
  clear s0 s1 s2 hZ6 hZ
  go_wp2_with fail
  go_ret2
  refine ⟨rfl, ?_⟩
  have hwg : w.heap.size ≤ gw := by have := HB5.out.size; omega
  iterate 6 refine below_set ?_ (by dsimp only; exact hwg) _
  exact below_then HB5.out hB6
set_option maxHeartbeats 8000000 in
set_option maxRecDepth 100000 in
theorem load_2 (b : Nat) (c : Cl) (w : World) (hA : ClAt w b c) (ok : c.ok) (off : Int) (o0 : 0 ≤ off) (h : off % 4 = 0) (k : Nat) (hk : k < 8) (hp : pl c.n off = some (2, (k : Int))) :
    Calls Try.prog 37 #[.pointer (some ⟨b, 0, none⟩), .int .u32 off] w fun e w' => e = .returned (.tuple #[.int .u32 (c.cmp k % 4294967296), .int .i64 0]) ∧ Below w.heap.size w w' := by
  have HA := Lib.hid hA
  have HH := Lib.hid h
  have HP := Lib.hid hp
  have k0 : (0 : Int) ≤ (k : Int) := by omega
  have k8 : (k : Int) < 8 := by omega
  clear hA h hp
  go_enter Try.func37, Try.ntmps37
  go_upto_region 4 with (go_at_call 51; refine (find_some b c _ HA.out ok.n1 off o0 HH.out (2, (k : Int)) HP.out).mono ?_; rintro e w1 ⟨rfl, hb1⟩)
  have hA1 := ClAt.ext HA.out hb1
  have hblt := RowAt.lt HA.out
  have hbl1 : b < w1.heap.size := RowAt.lt hA1
  have hA2 := RowAt.alloc hA1 (.cells #[.int .i64 2, .int .i64 k] 87)
  have hP2 := RowAt.new w1 #[.int .i64 2, .int .i64 k] 87
  have hB2 := below_new hb1 (.cells #[.int .i64 2, .int .i64 k] 87)
  refine wp_name (Pr := fun W => ClAt W b c ∧ RowAt W w1.heap.size #[.int .i64 2, .int .i64 k] 87 ∧ Below w.heap.size w W) ⟨hA2, hP2, hB2⟩ ?_
  clear hA1 hA2 hP2 hB2 hb1
  rintro W ⟨hA3, hP3, hB3⟩
  obtain ⟨hkA, _⟩ := Ext.cells hA3
  obtain ⟨hkP, _⟩ := Ext.cells hP3
  have s0 : ∀ x : Ext W.heap.size W, x.world.cell? ⟨w1.heap.size, 1, none⟩ = some (.int .i64 k) := fun x => hkP x 1
  have s1 : ∀ x : Ext W.heap.size W, x.world.cell? ⟨b, 1 + k * 2, none⟩ = some (.int .u64 (c.cmp k)) := fun x => (hkA x _).trans (c.cell_cmp hk)
  have s2 : ∀ x : Ext W.heap.size W, x.world.cell? ⟨b, 1 + k * 2 + 1, none⟩ = some (.int .u32 (c.soft k)) := fun x => (hkA x _).trans (c.cell_soft hk)
  have HA3 := Lib.hid hA3
  have HP3 := Lib.hid hP3
  have HB3 := Lib.hid hB3
  clear hA3 hP3 hB3 hkA hkP
  refine wp_start (w := W) ?_
  intro x
  refine wp_region_free1 x 8 7 (fun g => .pointer (some ⟨g, 0, none⟩)) (.cells #[.int .u64 0, .int .u32 0] 82 (0, 0)) (by kernel_rfl) (by kernel_rfl) (by decide) (fun G => by kernel_rfl) ⟨_, rfl, rfl, fun a w => by kernel_rfl⟩ ?_
  intro gh w2 hw2
  have s0 : ∀ x : Ext w2.heap.size w2, x.world.cell? ⟨w1.heap.size, 1, none⟩ = some (.int .i64 k) := fun y => s0 ⟨_, below_then hw2 y.ok⟩
  have s1 : ∀ x : Ext w2.heap.size w2, x.world.cell? ⟨b, 1 + k * 2, none⟩ = some (.int .u64 (c.cmp k)) := fun y => s1 ⟨_, below_then hw2 y.ok⟩
  have s2 : ∀ x : Ext w2.heap.size w2, x.world.cell? ⟨b, 1 + k * 2 + 1, none⟩ = some (.int .u32 (c.soft k)) := fun y => s2 ⟨_, below_then hw2 y.ok⟩
  simp only [List.take_succ_cons, List.take_zero, List.drop_succ_cons, List.drop_zero, List.modify_succ_cons, List.modify_zero_cons, made]
  repeat (go_big_quiet_step (fail))
  refine wpQuiet_nil ?_
  intro W4 hB4 hg4 hZ4
  have hZ : RowAt W4 gh #[.int .u64 0, .int .u32 0] 82 := hZ4
  have z0 : W4.cell? ⟨gh, 0, none⟩ = some (.int .u64 0) := hZ.cell (i := 0) rfl
  have z1 : W4.cell? ⟨gh, 1, none⟩ = some (.int .u32 0) := hZ.cell (i := 1) rfl
  have zf := RowAt.frozen hZ
  have hWl : w1.heap.size < W.heap.size := RowAt.lt HP3.out
  have hbW : b < W.heap.size := RowAt.lt HA3.out
  have hwW : w.heap.size ≤ W.heap.size := HB3.out.size
  clear s0 s1 s2 hZ4
  go_upto_region 5 with (fail)
  have R4 := (RowAt.set hZ 0 (.int .u64 (c.cmp k))).set 1 (.int .u32 (c.soft k))
  refine wp_name (Pr := fun W' => ClAt W' b c ∧ RowAt W' w1.heap.size #[.int .i64 2, .int .i64 k] 87 ∧ RowAt W' gh #[.int .u64 (c.cmp k), .int .u32 (c.soft k)] 82 ∧ Below w.heap.size w W')
    ⟨RowAt.other (RowAt.other (ClAt.ext HA3.out hB4) (by dsimp only; omega) _) (by dsimp only; omega) _, RowAt.other (RowAt.other (RowAt.ext HP3.out hB4) (by dsimp only; omega) _) (by dsimp only; omega) _, R4, below_set (below_set (below_then HB3.out hB4) (by dsimp only; omega) _) (by dsimp only; omega) _⟩ ?_
  have hgp : ∃ g, w1.heap.size = g := ⟨_, rfl⟩
  obtain ⟨gp, hgp⟩ := hgp
  rw [hgp] at hWl ⊢
  clear R4 hZ z0 z1 zf HA3 HP3 HB3 hgp hbl1 hB4 hw2 x
  rintro W5 ⟨hA5, hP5, hH5, hB5⟩
  obtain ⟨hkA, _⟩ := Ext.cells hA5
  obtain ⟨hkH, _⟩ := Ext.cells hH5
  have s0 : ∀ x : Ext W5.heap.size W5, x.world.cell? ⟨gh, 0, none⟩ = some (.int .u64 (c.cmp k)) := fun x => hkH x 0
  have s1 : ∀ x : Ext W5.heap.size W5, x.world.cell? ⟨gh, 1, none⟩ = some (.int .u32 (c.soft k)) := fun x => hkH x 1
  have s2 : ∀ x : Ext W5.heap.size W5, x.world.cell? ⟨b, 0, none⟩ = some (.int .u64 c.time) := fun x => hkA x 0
  have HP5 := Lib.hid hP5
  have HB5 := Lib.hid hB5
  clear hA5 hP5 hH5 hB5 hkA hkH
  refine wp_start (w := W5) ?_
  intro x
  refine wp_region_free1 x 20 19 (fun g => .pointer (some ⟨g, 0, none⟩)) (.cells #[.int .u32 0, .int .u32 0, .int .u32 0, .int .u32 0, .int .u32 0, .int .u32 0] 96 (0, 0)) (by kernel_rfl) (by kernel_rfl) (by decide) (fun G => by kernel_rfl) ⟨_, rfl, rfl, fun a w => by kernel_rfl⟩ ?_
  intro gw w2 hw2
  have s0 : ∀ x : Ext w2.heap.size w2, x.world.cell? ⟨gh, 0, none⟩ = some (.int .u64 (c.cmp k)) := fun y => s0 ⟨_, below_then hw2 y.ok⟩
  have s1 : ∀ x : Ext w2.heap.size w2, x.world.cell? ⟨gh, 1, none⟩ = some (.int .u32 (c.soft k)) := fun y => s1 ⟨_, below_then hw2 y.ok⟩
  have s2 : ∀ x : Ext w2.heap.size w2, x.world.cell? ⟨b, 0, none⟩ = some (.int .u64 c.time) := fun y => s2 ⟨_, below_then hw2 y.ok⟩
  simp only [List.take_succ_cons, List.take_zero, List.drop_succ_cons, List.drop_zero, List.modify_succ_cons, List.modify_zero_cons, made]
  repeat (go_big_quiet_step (first
    | (go_at_call 54; exact Ext.call (lo_any _ _ (by first | exact ok.c0 _ | exact ok.t0) (by first | exact ok.c1 _ | exact ok.t1)))
    | (go_at_call 53; exact Ext.call (hi_any _ _ (by first | exact ok.c0 _ | exact ok.t0) (by first | exact ok.c1 _ | exact ok.t1)))))
  refine wpQuiet_nil ?_
  intro W6 hB6 hg6 hZ6
  have hZ : RowAt W6 gw #[.int .u32 0, .int .u32 0, .int .u32 0, .int .u32 0, .int .u32 0, .int .u32 0] 96 := hZ6
  have z0 : W6.cell? ⟨gw, 0, none⟩ = some (.int .u32 0) := hZ.cell (i := 0) rfl
  have z1 : W6.cell? ⟨gw, 1, none⟩ = some (.int .u32 0) := hZ.cell (i := 1) rfl
  have z2 : W6.cell? ⟨gw, 2, none⟩ = some (.int .u32 0) := hZ.cell (i := 2) rfl
  have z3 : W6.cell? ⟨gw, 3, none⟩ = some (.int .u32 0) := hZ.cell (i := 3) rfl
  have z4 : W6.cell? ⟨gw, 4, none⟩ = some (.int .u32 0) := hZ.cell (i := 4) rfl
  have z5 : W6.cell? ⟨gw, 5, none⟩ = some (.int .u32 0) := hZ.cell (i := 5) rfl
  have zf := RowAt.frozen hZ
  have p0 : W6.cell? ⟨gp, 0, none⟩ = some (.int .i64 2) := (RowAt.ext HP5.out hB6).cell (i := 0) rfl
  have hne : gp ≠ gw := by have := RowAt.lt HP5.out; omega
  clear s0 s1 s2 hZ6 hZ
  go_wp2_with fail
  go_ret2
  refine ⟨rfl, ?_⟩
  have hwg : w.heap.size ≤ gw := by have := HB5.out.size; omega
  iterate 6 refine below_set ?_ (by dsimp only; exact hwg) _
  exact below_then HB5.out hB6
set_option maxHeartbeats 8000000 in
set_option maxRecDepth 100000 in
theorem load_3 (b : Nat) (c : Cl) (w : World) (hA : ClAt w b c) (ok : c.ok) (off : Int) (o0 : 0 ≤ off) (h : off % 4 = 0) (k : Nat) (hk : k < 8) (hp : pl c.n off = some (3, (k : Int))) :
    Calls Try.prog 37 #[.pointer (some ⟨b, 0, none⟩), .int .u32 off] w fun e w' => e = .returned (.tuple #[.int .u32 (c.cmp k / 4294967296), .int .i64 0]) ∧ Below w.heap.size w w' := by
  have HA := Lib.hid hA
  have HH := Lib.hid h
  have HP := Lib.hid hp
  have k0 : (0 : Int) ≤ (k : Int) := by omega
  have k8 : (k : Int) < 8 := by omega
  clear hA h hp
  go_enter Try.func37, Try.ntmps37
  go_upto_region 4 with (go_at_call 51; refine (find_some b c _ HA.out ok.n1 off o0 HH.out (3, (k : Int)) HP.out).mono ?_; rintro e w1 ⟨rfl, hb1⟩)
  have hA1 := ClAt.ext HA.out hb1
  have hblt := RowAt.lt HA.out
  have hbl1 : b < w1.heap.size := RowAt.lt hA1
  have hA2 := RowAt.alloc hA1 (.cells #[.int .i64 3, .int .i64 k] 87)
  have hP2 := RowAt.new w1 #[.int .i64 3, .int .i64 k] 87
  have hB2 := below_new hb1 (.cells #[.int .i64 3, .int .i64 k] 87)
  refine wp_name (Pr := fun W => ClAt W b c ∧ RowAt W w1.heap.size #[.int .i64 3, .int .i64 k] 87 ∧ Below w.heap.size w W) ⟨hA2, hP2, hB2⟩ ?_
  clear hA1 hA2 hP2 hB2 hb1
  rintro W ⟨hA3, hP3, hB3⟩
  obtain ⟨hkA, _⟩ := Ext.cells hA3
  obtain ⟨hkP, _⟩ := Ext.cells hP3
  have s0 : ∀ x : Ext W.heap.size W, x.world.cell? ⟨w1.heap.size, 1, none⟩ = some (.int .i64 k) := fun x => hkP x 1
  have s1 : ∀ x : Ext W.heap.size W, x.world.cell? ⟨b, 1 + k * 2, none⟩ = some (.int .u64 (c.cmp k)) := fun x => (hkA x _).trans (c.cell_cmp hk)
  have s2 : ∀ x : Ext W.heap.size W, x.world.cell? ⟨b, 1 + k * 2 + 1, none⟩ = some (.int .u32 (c.soft k)) := fun x => (hkA x _).trans (c.cell_soft hk)
  have HA3 := Lib.hid hA3
  have HP3 := Lib.hid hP3
  have HB3 := Lib.hid hB3
  clear hA3 hP3 hB3 hkA hkP
  refine wp_start (w := W) ?_
  intro x
  refine wp_region_free1 x 8 7 (fun g => .pointer (some ⟨g, 0, none⟩)) (.cells #[.int .u64 0, .int .u32 0] 82 (0, 0)) (by kernel_rfl) (by kernel_rfl) (by decide) (fun G => by kernel_rfl) ⟨_, rfl, rfl, fun a w => by kernel_rfl⟩ ?_
  intro gh w2 hw2
  have s0 : ∀ x : Ext w2.heap.size w2, x.world.cell? ⟨w1.heap.size, 1, none⟩ = some (.int .i64 k) := fun y => s0 ⟨_, below_then hw2 y.ok⟩
  have s1 : ∀ x : Ext w2.heap.size w2, x.world.cell? ⟨b, 1 + k * 2, none⟩ = some (.int .u64 (c.cmp k)) := fun y => s1 ⟨_, below_then hw2 y.ok⟩
  have s2 : ∀ x : Ext w2.heap.size w2, x.world.cell? ⟨b, 1 + k * 2 + 1, none⟩ = some (.int .u32 (c.soft k)) := fun y => s2 ⟨_, below_then hw2 y.ok⟩
  simp only [List.take_succ_cons, List.take_zero, List.drop_succ_cons, List.drop_zero, List.modify_succ_cons, List.modify_zero_cons, made]
  repeat (go_big_quiet_step (fail))
  refine wpQuiet_nil ?_
  intro W4 hB4 hg4 hZ4
  have hZ : RowAt W4 gh #[.int .u64 0, .int .u32 0] 82 := hZ4
  have z0 : W4.cell? ⟨gh, 0, none⟩ = some (.int .u64 0) := hZ.cell (i := 0) rfl
  have z1 : W4.cell? ⟨gh, 1, none⟩ = some (.int .u32 0) := hZ.cell (i := 1) rfl
  have zf := RowAt.frozen hZ
  have hWl : w1.heap.size < W.heap.size := RowAt.lt HP3.out
  have hbW : b < W.heap.size := RowAt.lt HA3.out
  have hwW : w.heap.size ≤ W.heap.size := HB3.out.size
  clear s0 s1 s2 hZ4
  go_upto_region 5 with (fail)
  have R4 := (RowAt.set hZ 0 (.int .u64 (c.cmp k))).set 1 (.int .u32 (c.soft k))
  refine wp_name (Pr := fun W' => ClAt W' b c ∧ RowAt W' w1.heap.size #[.int .i64 3, .int .i64 k] 87 ∧ RowAt W' gh #[.int .u64 (c.cmp k), .int .u32 (c.soft k)] 82 ∧ Below w.heap.size w W')
    ⟨RowAt.other (RowAt.other (ClAt.ext HA3.out hB4) (by dsimp only; omega) _) (by dsimp only; omega) _, RowAt.other (RowAt.other (RowAt.ext HP3.out hB4) (by dsimp only; omega) _) (by dsimp only; omega) _, R4, below_set (below_set (below_then HB3.out hB4) (by dsimp only; omega) _) (by dsimp only; omega) _⟩ ?_
  have hgp : ∃ g, w1.heap.size = g := ⟨_, rfl⟩
  obtain ⟨gp, hgp⟩ := hgp
  rw [hgp] at hWl ⊢
  clear R4 hZ z0 z1 zf HA3 HP3 HB3 hgp hbl1 hB4 hw2 x
  rintro W5 ⟨hA5, hP5, hH5, hB5⟩
  obtain ⟨hkA, _⟩ := Ext.cells hA5
  obtain ⟨hkH, _⟩ := Ext.cells hH5
  have s0 : ∀ x : Ext W5.heap.size W5, x.world.cell? ⟨gh, 0, none⟩ = some (.int .u64 (c.cmp k)) := fun x => hkH x 0
  have s1 : ∀ x : Ext W5.heap.size W5, x.world.cell? ⟨gh, 1, none⟩ = some (.int .u32 (c.soft k)) := fun x => hkH x 1
  have s2 : ∀ x : Ext W5.heap.size W5, x.world.cell? ⟨b, 0, none⟩ = some (.int .u64 c.time) := fun x => hkA x 0
  have HP5 := Lib.hid hP5
  have HB5 := Lib.hid hB5
  clear hA5 hP5 hH5 hB5 hkA hkH
  refine wp_start (w := W5) ?_
  intro x
  refine wp_region_free1 x 20 19 (fun g => .pointer (some ⟨g, 0, none⟩)) (.cells #[.int .u32 0, .int .u32 0, .int .u32 0, .int .u32 0, .int .u32 0, .int .u32 0] 96 (0, 0)) (by kernel_rfl) (by kernel_rfl) (by decide) (fun G => by kernel_rfl) ⟨_, rfl, rfl, fun a w => by kernel_rfl⟩ ?_
  intro gw w2 hw2
  have s0 : ∀ x : Ext w2.heap.size w2, x.world.cell? ⟨gh, 0, none⟩ = some (.int .u64 (c.cmp k)) := fun y => s0 ⟨_, below_then hw2 y.ok⟩
  have s1 : ∀ x : Ext w2.heap.size w2, x.world.cell? ⟨gh, 1, none⟩ = some (.int .u32 (c.soft k)) := fun y => s1 ⟨_, below_then hw2 y.ok⟩
  have s2 : ∀ x : Ext w2.heap.size w2, x.world.cell? ⟨b, 0, none⟩ = some (.int .u64 c.time) := fun y => s2 ⟨_, below_then hw2 y.ok⟩
  simp only [List.take_succ_cons, List.take_zero, List.drop_succ_cons, List.drop_zero, List.modify_succ_cons, List.modify_zero_cons, made]
  repeat (go_big_quiet_step (first
    | (go_at_call 54; exact Ext.call (lo_any _ _ (by first | exact ok.c0 _ | exact ok.t0) (by first | exact ok.c1 _ | exact ok.t1)))
    | (go_at_call 53; exact Ext.call (hi_any _ _ (by first | exact ok.c0 _ | exact ok.t0) (by first | exact ok.c1 _ | exact ok.t1)))))
  refine wpQuiet_nil ?_
  intro W6 hB6 hg6 hZ6
  have hZ : RowAt W6 gw #[.int .u32 0, .int .u32 0, .int .u32 0, .int .u32 0, .int .u32 0, .int .u32 0] 96 := hZ6
  have z0 : W6.cell? ⟨gw, 0, none⟩ = some (.int .u32 0) := hZ.cell (i := 0) rfl
  have z1 : W6.cell? ⟨gw, 1, none⟩ = some (.int .u32 0) := hZ.cell (i := 1) rfl
  have z2 : W6.cell? ⟨gw, 2, none⟩ = some (.int .u32 0) := hZ.cell (i := 2) rfl
  have z3 : W6.cell? ⟨gw, 3, none⟩ = some (.int .u32 0) := hZ.cell (i := 3) rfl
  have z4 : W6.cell? ⟨gw, 4, none⟩ = some (.int .u32 0) := hZ.cell (i := 4) rfl
  have z5 : W6.cell? ⟨gw, 5, none⟩ = some (.int .u32 0) := hZ.cell (i := 5) rfl
  have zf := RowAt.frozen hZ
  have p0 : W6.cell? ⟨gp, 0, none⟩ = some (.int .i64 3) := (RowAt.ext HP5.out hB6).cell (i := 0) rfl
  have hne : gp ≠ gw := by have := RowAt.lt HP5.out; omega
  clear s0 s1 s2 hZ6 hZ
  go_wp2_with fail
  go_ret2
  refine ⟨rfl, ?_⟩
  have hwg : w.heap.size ≤ gw := by have := HB5.out.size; omega
  iterate 6 refine below_set ?_ (by dsimp only; exact hwg) _
  exact below_then HB5.out hB6
set_option maxHeartbeats 8000000 in
set_option maxRecDepth 100000 in
theorem load_4 (b : Nat) (c : Cl) (w : World) (hA : ClAt w b c) (ok : c.ok) (off : Int) (o0 : 0 ≤ off) (h : off % 4 = 0) (k : Nat) (hk : k < 8) (hp : pl c.n off = some (4, (k : Int))) :
    Calls Try.prog 37 #[.pointer (some ⟨b, 0, none⟩), .int .u32 off] w fun e w' => e = .returned (.tuple #[.int .u32 (c.time % 4294967296), .int .i64 0]) ∧ Below w.heap.size w w' := by
  have HA := Lib.hid hA
  have HH := Lib.hid h
  have HP := Lib.hid hp
  have k0 : (0 : Int) ≤ (k : Int) := by omega
  have k8 : (k : Int) < 8 := by omega
  clear hA h hp
  go_enter Try.func37, Try.ntmps37
  go_upto_region 4 with (go_at_call 51; refine (find_some b c _ HA.out ok.n1 off o0 HH.out (4, (k : Int)) HP.out).mono ?_; rintro e w1 ⟨rfl, hb1⟩)
  have hA1 := ClAt.ext HA.out hb1
  have hblt := RowAt.lt HA.out
  have hbl1 : b < w1.heap.size := RowAt.lt hA1
  have hA2 := RowAt.alloc hA1 (.cells #[.int .i64 4, .int .i64 k] 87)
  have hP2 := RowAt.new w1 #[.int .i64 4, .int .i64 k] 87
  have hB2 := below_new hb1 (.cells #[.int .i64 4, .int .i64 k] 87)
  refine wp_name (Pr := fun W => ClAt W b c ∧ RowAt W w1.heap.size #[.int .i64 4, .int .i64 k] 87 ∧ Below w.heap.size w W) ⟨hA2, hP2, hB2⟩ ?_
  clear hA1 hA2 hP2 hB2 hb1
  rintro W ⟨hA3, hP3, hB3⟩
  obtain ⟨hkA, _⟩ := Ext.cells hA3
  obtain ⟨hkP, _⟩ := Ext.cells hP3
  have s0 : ∀ x : Ext W.heap.size W, x.world.cell? ⟨w1.heap.size, 1, none⟩ = some (.int .i64 k) := fun x => hkP x 1
  have s1 : ∀ x : Ext W.heap.size W, x.world.cell? ⟨b, 1 + k * 2, none⟩ = some (.int .u64 (c.cmp k)) := fun x => (hkA x _).trans (c.cell_cmp hk)
  have s2 : ∀ x : Ext W.heap.size W, x.world.cell? ⟨b, 1 + k * 2 + 1, none⟩ = some (.int .u32 (c.soft k)) := fun x => (hkA x _).trans (c.cell_soft hk)
  have HA3 := Lib.hid hA3
  have HP3 := Lib.hid hP3
  have HB3 := Lib.hid hB3
  clear hA3 hP3 hB3 hkA hkP
  refine wp_start (w := W) ?_
  intro x
  refine wp_region_free1 x 8 7 (fun g => .pointer (some ⟨g, 0, none⟩)) (.cells #[.int .u64 0, .int .u32 0] 82 (0, 0)) (by kernel_rfl) (by kernel_rfl) (by decide) (fun G => by kernel_rfl) ⟨_, rfl, rfl, fun a w => by kernel_rfl⟩ ?_
  intro gh w2 hw2
  have s0 : ∀ x : Ext w2.heap.size w2, x.world.cell? ⟨w1.heap.size, 1, none⟩ = some (.int .i64 k) := fun y => s0 ⟨_, below_then hw2 y.ok⟩
  have s1 : ∀ x : Ext w2.heap.size w2, x.world.cell? ⟨b, 1 + k * 2, none⟩ = some (.int .u64 (c.cmp k)) := fun y => s1 ⟨_, below_then hw2 y.ok⟩
  have s2 : ∀ x : Ext w2.heap.size w2, x.world.cell? ⟨b, 1 + k * 2 + 1, none⟩ = some (.int .u32 (c.soft k)) := fun y => s2 ⟨_, below_then hw2 y.ok⟩
  simp only [List.take_succ_cons, List.take_zero, List.drop_succ_cons, List.drop_zero, List.modify_succ_cons, List.modify_zero_cons, made]
  repeat (go_big_quiet_step (fail))
  refine wpQuiet_nil ?_
  intro W4 hB4 hg4 hZ4
  have hZ : RowAt W4 gh #[.int .u64 0, .int .u32 0] 82 := hZ4
  have z0 : W4.cell? ⟨gh, 0, none⟩ = some (.int .u64 0) := hZ.cell (i := 0) rfl
  have z1 : W4.cell? ⟨gh, 1, none⟩ = some (.int .u32 0) := hZ.cell (i := 1) rfl
  have zf := RowAt.frozen hZ
  have hWl : w1.heap.size < W.heap.size := RowAt.lt HP3.out
  have hbW : b < W.heap.size := RowAt.lt HA3.out
  have hwW : w.heap.size ≤ W.heap.size := HB3.out.size
  clear s0 s1 s2 hZ4
  go_upto_region 5 with (fail)
  have R4 := (RowAt.set hZ 0 (.int .u64 (c.cmp k))).set 1 (.int .u32 (c.soft k))
  refine wp_name (Pr := fun W' => ClAt W' b c ∧ RowAt W' w1.heap.size #[.int .i64 4, .int .i64 k] 87 ∧ RowAt W' gh #[.int .u64 (c.cmp k), .int .u32 (c.soft k)] 82 ∧ Below w.heap.size w W')
    ⟨RowAt.other (RowAt.other (ClAt.ext HA3.out hB4) (by dsimp only; omega) _) (by dsimp only; omega) _, RowAt.other (RowAt.other (RowAt.ext HP3.out hB4) (by dsimp only; omega) _) (by dsimp only; omega) _, R4, below_set (below_set (below_then HB3.out hB4) (by dsimp only; omega) _) (by dsimp only; omega) _⟩ ?_
  have hgp : ∃ g, w1.heap.size = g := ⟨_, rfl⟩
  obtain ⟨gp, hgp⟩ := hgp
  rw [hgp] at hWl ⊢
  clear R4 hZ z0 z1 zf HA3 HP3 HB3 hgp hbl1 hB4 hw2 x
  rintro W5 ⟨hA5, hP5, hH5, hB5⟩
  obtain ⟨hkA, _⟩ := Ext.cells hA5
  obtain ⟨hkH, _⟩ := Ext.cells hH5
  have s0 : ∀ x : Ext W5.heap.size W5, x.world.cell? ⟨gh, 0, none⟩ = some (.int .u64 (c.cmp k)) := fun x => hkH x 0
  have s1 : ∀ x : Ext W5.heap.size W5, x.world.cell? ⟨gh, 1, none⟩ = some (.int .u32 (c.soft k)) := fun x => hkH x 1
  have s2 : ∀ x : Ext W5.heap.size W5, x.world.cell? ⟨b, 0, none⟩ = some (.int .u64 c.time) := fun x => hkA x 0
  have HP5 := Lib.hid hP5
  have HB5 := Lib.hid hB5
  clear hA5 hP5 hH5 hB5 hkA hkH
  refine wp_start (w := W5) ?_
  intro x
  refine wp_region_free1 x 20 19 (fun g => .pointer (some ⟨g, 0, none⟩)) (.cells #[.int .u32 0, .int .u32 0, .int .u32 0, .int .u32 0, .int .u32 0, .int .u32 0] 96 (0, 0)) (by kernel_rfl) (by kernel_rfl) (by decide) (fun G => by kernel_rfl) ⟨_, rfl, rfl, fun a w => by kernel_rfl⟩ ?_
  intro gw w2 hw2
  have s0 : ∀ x : Ext w2.heap.size w2, x.world.cell? ⟨gh, 0, none⟩ = some (.int .u64 (c.cmp k)) := fun y => s0 ⟨_, below_then hw2 y.ok⟩
  have s1 : ∀ x : Ext w2.heap.size w2, x.world.cell? ⟨gh, 1, none⟩ = some (.int .u32 (c.soft k)) := fun y => s1 ⟨_, below_then hw2 y.ok⟩
  have s2 : ∀ x : Ext w2.heap.size w2, x.world.cell? ⟨b, 0, none⟩ = some (.int .u64 c.time) := fun y => s2 ⟨_, below_then hw2 y.ok⟩
  simp only [List.take_succ_cons, List.take_zero, List.drop_succ_cons, List.drop_zero, List.modify_succ_cons, List.modify_zero_cons, made]
  repeat (go_big_quiet_step (first
    | (go_at_call 54; exact Ext.call (lo_any _ _ (by first | exact ok.c0 _ | exact ok.t0) (by first | exact ok.c1 _ | exact ok.t1)))
    | (go_at_call 53; exact Ext.call (hi_any _ _ (by first | exact ok.c0 _ | exact ok.t0) (by first | exact ok.c1 _ | exact ok.t1)))))
  refine wpQuiet_nil ?_
  intro W6 hB6 hg6 hZ6
  have hZ : RowAt W6 gw #[.int .u32 0, .int .u32 0, .int .u32 0, .int .u32 0, .int .u32 0, .int .u32 0] 96 := hZ6
  have z0 : W6.cell? ⟨gw, 0, none⟩ = some (.int .u32 0) := hZ.cell (i := 0) rfl
  have z1 : W6.cell? ⟨gw, 1, none⟩ = some (.int .u32 0) := hZ.cell (i := 1) rfl
  have z2 : W6.cell? ⟨gw, 2, none⟩ = some (.int .u32 0) := hZ.cell (i := 2) rfl
  have z3 : W6.cell? ⟨gw, 3, none⟩ = some (.int .u32 0) := hZ.cell (i := 3) rfl
  have z4 : W6.cell? ⟨gw, 4, none⟩ = some (.int .u32 0) := hZ.cell (i := 4) rfl
  have z5 : W6.cell? ⟨gw, 5, none⟩ = some (.int .u32 0) := hZ.cell (i := 5) rfl
  have zf := RowAt.frozen hZ
  have p0 : W6.cell? ⟨gp, 0, none⟩ = some (.int .i64 4) := (RowAt.ext HP5.out hB6).cell (i := 0) rfl
  have hne : gp ≠ gw := by have := RowAt.lt HP5.out; omega
  clear s0 s1 s2 hZ6 hZ
  go_wp2_with fail
  go_ret2
  refine ⟨rfl, ?_⟩
  have hwg : w.heap.size ≤ gw := by have := HB5.out.size; omega
  iterate 6 refine below_set ?_ (by dsimp only; exact hwg) _
  exact below_then HB5.out hB6
set_option maxHeartbeats 8000000 in
set_option maxRecDepth 100000 in
theorem load_5 (b : Nat) (c : Cl) (w : World) (hA : ClAt w b c) (ok : c.ok) (off : Int) (o0 : 0 ≤ off) (h : off % 4 = 0) (k : Nat) (hk : k < 8) (hp : pl c.n off = some (5, (k : Int))) :
    Calls Try.prog 37 #[.pointer (some ⟨b, 0, none⟩), .int .u32 off] w fun e w' => e = .returned (.tuple #[.int .u32 (c.time / 4294967296), .int .i64 0]) ∧ Below w.heap.size w w' := by
  have HA := Lib.hid hA
  have HH := Lib.hid h
  have HP := Lib.hid hp
  have k0 : (0 : Int) ≤ (k : Int) := by omega
  have k8 : (k : Int) < 8 := by omega
  clear hA h hp
  go_enter Try.func37, Try.ntmps37
  go_upto_region 4 with (go_at_call 51; refine (find_some b c _ HA.out ok.n1 off o0 HH.out (5, (k : Int)) HP.out).mono ?_; rintro e w1 ⟨rfl, hb1⟩)
  have hA1 := ClAt.ext HA.out hb1
  have hblt := RowAt.lt HA.out
  have hbl1 : b < w1.heap.size := RowAt.lt hA1
  have hA2 := RowAt.alloc hA1 (.cells #[.int .i64 5, .int .i64 k] 87)
  have hP2 := RowAt.new w1 #[.int .i64 5, .int .i64 k] 87
  have hB2 := below_new hb1 (.cells #[.int .i64 5, .int .i64 k] 87)
  refine wp_name (Pr := fun W => ClAt W b c ∧ RowAt W w1.heap.size #[.int .i64 5, .int .i64 k] 87 ∧ Below w.heap.size w W) ⟨hA2, hP2, hB2⟩ ?_
  clear hA1 hA2 hP2 hB2 hb1
  rintro W ⟨hA3, hP3, hB3⟩
  obtain ⟨hkA, _⟩ := Ext.cells hA3
  obtain ⟨hkP, _⟩ := Ext.cells hP3
  have s0 : ∀ x : Ext W.heap.size W, x.world.cell? ⟨w1.heap.size, 1, none⟩ = some (.int .i64 k) := fun x => hkP x 1
  have s1 : ∀ x : Ext W.heap.size W, x.world.cell? ⟨b, 1 + k * 2, none⟩ = some (.int .u64 (c.cmp k)) := fun x => (hkA x _).trans (c.cell_cmp hk)
  have s2 : ∀ x : Ext W.heap.size W, x.world.cell? ⟨b, 1 + k * 2 + 1, none⟩ = some (.int .u32 (c.soft k)) := fun x => (hkA x _).trans (c.cell_soft hk)
  have HA3 := Lib.hid hA3
  have HP3 := Lib.hid hP3
  have HB3 := Lib.hid hB3
  clear hA3 hP3 hB3 hkA hkP
  refine wp_start (w := W) ?_
  intro x
  refine wp_region_free1 x 8 7 (fun g => .pointer (some ⟨g, 0, none⟩)) (.cells #[.int .u64 0, .int .u32 0] 82 (0, 0)) (by kernel_rfl) (by kernel_rfl) (by decide) (fun G => by kernel_rfl) ⟨_, rfl, rfl, fun a w => by kernel_rfl⟩ ?_
  intro gh w2 hw2
  have s0 : ∀ x : Ext w2.heap.size w2, x.world.cell? ⟨w1.heap.size, 1, none⟩ = some (.int .i64 k) := fun y => s0 ⟨_, below_then hw2 y.ok⟩
  have s1 : ∀ x : Ext w2.heap.size w2, x.world.cell? ⟨b, 1 + k * 2, none⟩ = some (.int .u64 (c.cmp k)) := fun y => s1 ⟨_, below_then hw2 y.ok⟩
  have s2 : ∀ x : Ext w2.heap.size w2, x.world.cell? ⟨b, 1 + k * 2 + 1, none⟩ = some (.int .u32 (c.soft k)) := fun y => s2 ⟨_, below_then hw2 y.ok⟩
  simp only [List.take_succ_cons, List.take_zero, List.drop_succ_cons, List.drop_zero, List.modify_succ_cons, List.modify_zero_cons, made]
  repeat (go_big_quiet_step (fail))
  refine wpQuiet_nil ?_
  intro W4 hB4 hg4 hZ4
  have hZ : RowAt W4 gh #[.int .u64 0, .int .u32 0] 82 := hZ4
  have z0 : W4.cell? ⟨gh, 0, none⟩ = some (.int .u64 0) := hZ.cell (i := 0) rfl
  have z1 : W4.cell? ⟨gh, 1, none⟩ = some (.int .u32 0) := hZ.cell (i := 1) rfl
  have zf := RowAt.frozen hZ
  have hWl : w1.heap.size < W.heap.size := RowAt.lt HP3.out
  have hbW : b < W.heap.size := RowAt.lt HA3.out
  have hwW : w.heap.size ≤ W.heap.size := HB3.out.size
  clear s0 s1 s2 hZ4
  go_upto_region 5 with (fail)
  have R4 := (RowAt.set hZ 0 (.int .u64 (c.cmp k))).set 1 (.int .u32 (c.soft k))
  refine wp_name (Pr := fun W' => ClAt W' b c ∧ RowAt W' w1.heap.size #[.int .i64 5, .int .i64 k] 87 ∧ RowAt W' gh #[.int .u64 (c.cmp k), .int .u32 (c.soft k)] 82 ∧ Below w.heap.size w W')
    ⟨RowAt.other (RowAt.other (ClAt.ext HA3.out hB4) (by dsimp only; omega) _) (by dsimp only; omega) _, RowAt.other (RowAt.other (RowAt.ext HP3.out hB4) (by dsimp only; omega) _) (by dsimp only; omega) _, R4, below_set (below_set (below_then HB3.out hB4) (by dsimp only; omega) _) (by dsimp only; omega) _⟩ ?_
  have hgp : ∃ g, w1.heap.size = g := ⟨_, rfl⟩
  obtain ⟨gp, hgp⟩ := hgp
  rw [hgp] at hWl ⊢
  clear R4 hZ z0 z1 zf HA3 HP3 HB3 hgp hbl1 hB4 hw2 x
  rintro W5 ⟨hA5, hP5, hH5, hB5⟩
  obtain ⟨hkA, _⟩ := Ext.cells hA5
  obtain ⟨hkH, _⟩ := Ext.cells hH5
  have s0 : ∀ x : Ext W5.heap.size W5, x.world.cell? ⟨gh, 0, none⟩ = some (.int .u64 (c.cmp k)) := fun x => hkH x 0
  have s1 : ∀ x : Ext W5.heap.size W5, x.world.cell? ⟨gh, 1, none⟩ = some (.int .u32 (c.soft k)) := fun x => hkH x 1
  have s2 : ∀ x : Ext W5.heap.size W5, x.world.cell? ⟨b, 0, none⟩ = some (.int .u64 c.time) := fun x => hkA x 0
  have HP5 := Lib.hid hP5
  have HB5 := Lib.hid hB5
  clear hA5 hP5 hH5 hB5 hkA hkH
  refine wp_start (w := W5) ?_
  intro x
  refine wp_region_free1 x 20 19 (fun g => .pointer (some ⟨g, 0, none⟩)) (.cells #[.int .u32 0, .int .u32 0, .int .u32 0, .int .u32 0, .int .u32 0, .int .u32 0] 96 (0, 0)) (by kernel_rfl) (by kernel_rfl) (by decide) (fun G => by kernel_rfl) ⟨_, rfl, rfl, fun a w => by kernel_rfl⟩ ?_
  intro gw w2 hw2
  have s0 : ∀ x : Ext w2.heap.size w2, x.world.cell? ⟨gh, 0, none⟩ = some (.int .u64 (c.cmp k)) := fun y => s0 ⟨_, below_then hw2 y.ok⟩
  have s1 : ∀ x : Ext w2.heap.size w2, x.world.cell? ⟨gh, 1, none⟩ = some (.int .u32 (c.soft k)) := fun y => s1 ⟨_, below_then hw2 y.ok⟩
  have s2 : ∀ x : Ext w2.heap.size w2, x.world.cell? ⟨b, 0, none⟩ = some (.int .u64 c.time) := fun y => s2 ⟨_, below_then hw2 y.ok⟩
  simp only [List.take_succ_cons, List.take_zero, List.drop_succ_cons, List.drop_zero, List.modify_succ_cons, List.modify_zero_cons, made]
  repeat (go_big_quiet_step (first
    | (go_at_call 54; exact Ext.call (lo_any _ _ (by first | exact ok.c0 _ | exact ok.t0) (by first | exact ok.c1 _ | exact ok.t1)))
    | (go_at_call 53; exact Ext.call (hi_any _ _ (by first | exact ok.c0 _ | exact ok.t0) (by first | exact ok.c1 _ | exact ok.t1)))))
  refine wpQuiet_nil ?_
  intro W6 hB6 hg6 hZ6
  have hZ : RowAt W6 gw #[.int .u32 0, .int .u32 0, .int .u32 0, .int .u32 0, .int .u32 0, .int .u32 0] 96 := hZ6
  have z0 : W6.cell? ⟨gw, 0, none⟩ = some (.int .u32 0) := hZ.cell (i := 0) rfl
  have z1 : W6.cell? ⟨gw, 1, none⟩ = some (.int .u32 0) := hZ.cell (i := 1) rfl
  have z2 : W6.cell? ⟨gw, 2, none⟩ = some (.int .u32 0) := hZ.cell (i := 2) rfl
  have z3 : W6.cell? ⟨gw, 3, none⟩ = some (.int .u32 0) := hZ.cell (i := 3) rfl
  have z4 : W6.cell? ⟨gw, 4, none⟩ = some (.int .u32 0) := hZ.cell (i := 4) rfl
  have z5 : W6.cell? ⟨gw, 5, none⟩ = some (.int .u32 0) := hZ.cell (i := 5) rfl
  have zf := RowAt.frozen hZ
  have p0 : W6.cell? ⟨gp, 0, none⟩ = some (.int .i64 5) := (RowAt.ext HP5.out hB6).cell (i := 0) rfl
  have hne : gp ≠ gw := by have := RowAt.lt HP5.out; omega
  clear s0 s1 s2 hZ6 hZ
  go_wp2_with fail
  go_ret2
  refine ⟨rfl, ?_⟩
  have hwg : w.heap.size ≤ gw := by have := HB5.out.size; omega
  iterate 6 refine below_set ?_ (by dsimp only; exact hwg) _
  exact below_then HB5.out hB6
theorem load_live (b : Nat) (c : Cl) (w : World) (hA : ClAt w b c) (ok : c.ok) (off : Int) (o0 : 0 ≤ off) :
    Calls Try.prog 37 #[.pointer (some ⟨b, 0, none⟩), .int .u32 off] w fun e w' => e = .returned (.tuple #[.int .u32 (loadI c off).1, .int .i64 (loadI c off).2]) ∧ Below w.heap.size w w' := by
  unfold loadI
  by_cases h : off % 4 = 0
  · rw [if_neg (by omega)]
    cases hp : pl c.n off with
    | none => exact load_none b c w hA ok.n1 off o0 h hp
    | some p =>
      obtain ⟨p1, p2⟩ := p
      have hin := pl_in hp
      simp only at hin
      have hn := ok.n1
      obtain ⟨k, rfl⟩ : ∃ k : Nat, p2 = (k : Int) := ⟨p2.toNat, by omega⟩
      have hk : k < 8 := by omega
      have h5 : p1 = 1 ∨ p1 = 2 ∨ p1 = 3 ∨ p1 = 4 ∨ p1 = 5 := by omega
      rcases h5 with rfl | rfl | rfl | rfl | rfl
      · exact load_1 b c w hA ok off o0 h k hk hp
      · exact load_2 b c w hA ok off o0 h k hk hp
      · exact load_3 b c w hA ok off o0 h k hk hp
      · exact load_4 b c w hA ok off o0 h k hk hp
      · exact load_5 b c w hA ok off o0 h k hk hp
  · rw [if_pos h]
    exact load_odd b c w hA off o0 h
end Go.Proofs.Ytaihebdjhbnhoaa
