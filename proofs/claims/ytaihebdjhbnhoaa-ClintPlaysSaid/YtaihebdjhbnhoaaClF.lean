/- The clint: Store. -/
import Derived.Test.YtaihebdjhbnhoaaClE
import Derived.Laws.BitsAllLaws
namespace Go.Proofs.Ytaihebdjhbnhoaa
open Go.RowKit
set_option linter.unusedVariables false
set_option linter.unusedSimpArgs false

theorem and1 (v : Int) (h0 : 0 ≤ v) (h1 : v ≤ 4294967295) : bits .and .u32 v 1 = v % 2 :=
  bits_mask .u32 32 (by decide) (fun n h0 h1 => by rw [IntKind.wrap_u32]; omega) 1 (by decide) v h0 (by omega)
def storeI (c : Cl) (off v : Int) : Cl × Int :=
  if off % 4 ≠ 0 then (c, 11) else match pl c.n off with
    | some p => if p.1 = 1 then ({ c with soft := upd c.soft p.2.toNat (v % 2) }, 0) else if p.1 = 2 then ({ c with cmp := upd c.cmp p.2.toNat (c.cmp p.2.toNat / 4294967296 * 4294967296 + v) }, 0)
        else if p.1 = 3 then ({ c with cmp := upd c.cmp p.2.toNat (v * 4294967296 + c.cmp p.2.toNat % 4294967296) }, 0) else (c, 12)
    | none => (c, 10)
theorem upd_in {f : Nat → Int} {k : Nat} {v lo hi : Int} (h : ∀ i, lo ≤ f i ∧ f i ≤ hi) (hv : lo ≤ v ∧ v ≤ hi) (i : Nat) : lo ≤ upd f k v i ∧ upd f k v i ≤ hi := by
  unfold upd
  split
  · exact hv
  · exact h i
theorem storeI_ok {c : Cl} (ok : c.ok) (off : Int) {v : Int} (v0 : 0 ≤ v) (v1 : v ≤ 4294967295) : (storeI c off v).1.ok := by
  unfold storeI
  split
  · exact ok
  · split
    · rename_i p _
      have hc := fun i => (⟨ok.c0 i, ok.c1 i⟩ : 0 ≤ c.cmp i ∧ c.cmp i ≤ 18446744073709551615)
      have hs := fun i => (⟨ok.s0 i, ok.s1 i⟩ : 0 ≤ c.soft i ∧ c.soft i ≤ 4294967295)
      have hk := hc p.2.toNat
      split
      · have := upd_in (k := p.2.toNat) (v := v % 2) hs (by omega)
        exact ⟨ok.t0, ok.t1, ok.c0, ok.c1, fun i => (this i).1, fun i => (this i).2, ok.n1⟩
      · split
        · have := upd_in (k := p.2.toNat) (v := c.cmp p.2.toNat / 4294967296 * 4294967296 + v) hc (by omega)
          exact ⟨ok.t0, ok.t1, fun i => (this i).1, fun i => (this i).2, ok.s0, ok.s1, ok.n1⟩
        · split
          · have := upd_in (k := p.2.toNat) (v := v * 4294967296 + c.cmp p.2.toNat % 4294967296) hc (by omega)
            exact ⟨ok.t0, ok.t1, fun i => (this i).1, fun i => (this i).2, ok.s0, ok.s1, ok.n1⟩
          · exact ok
    · exact ok
set_option maxHeartbeats 8000000 in
set_option maxRecDepth 100000 in
theorem store_nil (off v : Int) (w : World) :
    Calls Try.prog 27 #[.pointer none, .int .u32 off, .int .u32 v] w fun e w' => e = .returned (.int .i64 10) ∧ Below w.heap.size w w' := by
  go_enter Try.func27, Try.ntmps27
  go_wp2_with (go_at_call 51; refine (find_nil _ _).mono ?_; rintro e w1 ⟨rfl, hb1⟩)
  go_ret
  exact ⟨rfl, below_new hb1 _⟩
set_option maxHeartbeats 8000000 in
set_option maxRecDepth 100000 in
theorem store_odd (b : Nat) (c : Cl) (w : World) (hA : ClAt w b c) (off v : Int) (o0 : 0 ≤ off) (h : off % 4 ≠ 0) :
    Calls Try.prog 27 #[.pointer (some ⟨b, 0, none⟩), .int .u32 off, .int .u32 v] w fun e w' => e = .returned (.int .i64 11) ∧ Below w.heap.size w w' := by
  have HA := Lib.hid hA
  have HH := Lib.hid h
  clear hA h
  go_enter Try.func27, Try.ntmps27
  go_wp2_with (go_at_call 51; refine (find_odd b c _ HA.out off o0 HH.out).mono ?_; rintro e w1 ⟨rfl, hb1⟩)
  go_ret
  exact ⟨rfl, below_new hb1 _⟩
set_option maxHeartbeats 8000000 in
set_option maxRecDepth 100000 in
theorem store_none (b : Nat) (c : Cl) (w : World) (hA : ClAt w b c) (hn : c.n ≤ 8) (off v : Int) (o0 : 0 ≤ off) (h : off % 4 = 0) (hp : pl c.n off = none) :
    Calls Try.prog 27 #[.pointer (some ⟨b, 0, none⟩), .int .u32 off, .int .u32 v] w fun e w' => e = .returned (.int .i64 10) ∧ Below w.heap.size w w' := by
  have HA := Lib.hid hA
  have HH := Lib.hid h
  have HP := Lib.hid hp
  clear hA h hp
  go_enter Try.func27, Try.ntmps27
  go_wp2_with (go_at_call 51; refine (find_none b c _ HA.out hn off o0 HH.out HP.out).mono ?_; rintro e w1 ⟨rfl, hb1⟩)
  go_ret
  exact ⟨rfl, below_new hb1 _⟩
set_option maxHeartbeats 8000000 in
set_option maxRecDepth 100000 in
theorem store_1 (b : Nat) (c : Cl) (w : World) (hA : ClAt w b c) (ok : c.ok) (off v : Int) (o0 : 0 ≤ off) (h : off % 4 = 0) (v0 : 0 ≤ v) (v1 : v ≤ 4294967295) (k : Nat) (hk : k < 8) (hp : pl c.n off = some (1, (k : Int))) :
    Calls Try.prog 27 #[.pointer (some ⟨b, 0, none⟩), .int .u32 off, .int .u32 v] w fun e w' => e = .returned (.int .i64 0) ∧ ClAt w' b { c with soft := upd c.soft k (v % 2) } ∧ But b w w' := by
  have HA := Lib.hid hA
  have HH := Lib.hid h
  have HP := Lib.hid hp
  have k0 : (0 : Int) ≤ (k : Int) := by omega
  have k8 : (k : Int) < 8 := by omega
  have hand := and1 v v0 v1
  have cb0 := ok.c0 k
  have cb1 := ok.c1 k
  clear hA h hp
  go_enter Try.func27, Try.ntmps27
  go_upto_region 4 with (go_at_call 51; refine (find_some b c _ HA.out ok.n1 off o0 HH.out (1, (k : Int)) HP.out).mono ?_; rintro e w1 ⟨rfl, hb1⟩)
  have hA1 := ClAt.ext HA.out hb1
  have hbl1 : b < w1.heap.size := RowAt.lt hA1
  have hbw : b < w.heap.size := RowAt.lt HA.out
  have hA2 := RowAt.alloc hA1 (.cells #[.int .i64 1, .int .i64 k] 87)
  have hP2 := RowAt.new w1 #[.int .i64 1, .int .i64 k] 87
  have hB2 := below_new hb1 (.cells #[.int .i64 1, .int .i64 k] 87)
  refine wp_name (Pr := fun W => ClAt W b c ∧ RowAt W w1.heap.size #[.int .i64 1, .int .i64 k] 87 ∧ Below w.heap.size w W) ⟨hA2, hP2, hB2⟩ ?_
  clear hA1 hA2 hP2 hB2 hb1
  rintro W ⟨hA3, hP3, hB3⟩
  obtain ⟨hkP, _⟩ := Ext.cells hP3
  have s0 : ∀ x : Ext W.heap.size W, x.world.cell? ⟨w1.heap.size, 1, none⟩ = some (.int .i64 k) := fun x => hkP x 1
  have HA3 := Lib.hid hA3
  have HP3 := Lib.hid hP3
  have HB3 := Lib.hid hB3
  clear hA3 hP3 hB3 hkP
  refine wp_start (w := W) ?_
  intro x
  refine wp_region_ext _ (by kernel_rfl) (by kernel_rfl) ?_
  repeat (go_big_quiet_step (fail))
  refine wpQuiet_nil ?_
  rintro _ ⟨y, rfl⟩
  have hAy := ClAt.ext HA3.out y.ok
  have e0 : y.world.cell? ⟨w1.heap.size, 0, none⟩ = some (.int .i64 1) := (RowAt.ext HP3.out y.ok).cell (i := 0) rfl
  have e1 := hAy.cc hk
  have e2 := hAy.cs hk
  have fz := RowAt.frozen hAy
  clear s0
  go_wp2_with fail
  go_ret
  have q := RowAt.set hAy (1 + k * 2 + 1) (.int .u32 (v % 2))
  rw [Cl.set_soft _ hk] at q
  exact ⟨rfl, q, (but_of (below_then HB3.out y.ok) b).set _ _⟩
set_option maxHeartbeats 8000000 in
set_option maxRecDepth 100000 in
theorem store_2 (b : Nat) (c : Cl) (w : World) (hA : ClAt w b c) (ok : c.ok) (off v : Int) (o0 : 0 ≤ off) (h : off % 4 = 0) (v0 : 0 ≤ v) (v1 : v ≤ 4294967295) (k : Nat) (hk : k < 8) (hp : pl c.n off = some (2, (k : Int))) :
    Calls Try.prog 27 #[.pointer (some ⟨b, 0, none⟩), .int .u32 off, .int .u32 v] w fun e w' => e = .returned (.int .i64 0) ∧ ClAt w' b { c with cmp := upd c.cmp k (c.cmp k / 4294967296 * 4294967296 + v) } ∧ But b w w' := by
  have HA := Lib.hid hA
  have HH := Lib.hid h
  have HP := Lib.hid hp
  have k0 : (0 : Int) ≤ (k : Int) := by omega
  have k8 : (k : Int) < 8 := by omega
  have hand := and1 v v0 v1
  have cb0 := ok.c0 k
  have cb1 := ok.c1 k
  clear hA h hp
  go_enter Try.func27, Try.ntmps27
  go_upto_region 4 with (go_at_call 51; refine (find_some b c _ HA.out ok.n1 off o0 HH.out (2, (k : Int)) HP.out).mono ?_; rintro e w1 ⟨rfl, hb1⟩)
  have hA1 := ClAt.ext HA.out hb1
  have hbl1 : b < w1.heap.size := RowAt.lt hA1
  have hbw : b < w.heap.size := RowAt.lt HA.out
  have hA2 := RowAt.alloc hA1 (.cells #[.int .i64 2, .int .i64 k] 87)
  have hP2 := RowAt.new w1 #[.int .i64 2, .int .i64 k] 87
  have hB2 := below_new hb1 (.cells #[.int .i64 2, .int .i64 k] 87)
  refine wp_name (Pr := fun W => ClAt W b c ∧ RowAt W w1.heap.size #[.int .i64 2, .int .i64 k] 87 ∧ Below w.heap.size w W) ⟨hA2, hP2, hB2⟩ ?_
  clear hA1 hA2 hP2 hB2 hb1
  rintro W ⟨hA3, hP3, hB3⟩
  obtain ⟨hkP, _⟩ := Ext.cells hP3
  have s0 : ∀ x : Ext W.heap.size W, x.world.cell? ⟨w1.heap.size, 1, none⟩ = some (.int .i64 k) := fun x => hkP x 1
  have HA3 := Lib.hid hA3
  have HP3 := Lib.hid hP3
  have HB3 := Lib.hid hB3
  clear hA3 hP3 hB3 hkP
  refine wp_start (w := W) ?_
  intro x
  refine wp_region_ext _ (by kernel_rfl) (by kernel_rfl) ?_
  repeat (go_big_quiet_step (fail))
  refine wpQuiet_nil ?_
  rintro _ ⟨y, rfl⟩
  have hAy := ClAt.ext HA3.out y.ok
  have e0 : y.world.cell? ⟨w1.heap.size, 0, none⟩ = some (.int .i64 2) := (RowAt.ext HP3.out y.ok).cell (i := 0) rfl
  have e1 := hAy.cc hk
  have e2 := hAy.cs hk
  have fz := RowAt.frozen hAy
  clear s0
  go_wp2_with (first | (go_at_call 53; refine (hi_any _ _ cb0 cb1).mono ?_; rintro e w2 ⟨rfl, hb2⟩; have e1 := (ClAt.ext hAy hb2).cc hk; have fz := RowAt.frozen (ClAt.ext hAy hb2)) | (go_at_call 52; refine (join_any _ _ _ (by omega) (by omega) (by omega) (by omega)).mono ?_; rintro e w3 ⟨rfl, hb3⟩; have e1 := (ClAt.ext (ClAt.ext hAy hb2) hb3).cc hk; have fz := RowAt.frozen (ClAt.ext (ClAt.ext hAy hb2) hb3)))
  go_ret
  have q := RowAt.set (ClAt.ext (ClAt.ext hAy hb2) hb3) (1 + k * 2) (.int .u64 (c.cmp k / 4294967296 * 4294967296 + v))
  rw [Cl.set_cmp _ hk] at q
  exact ⟨rfl, q, (but_of (below_then (below_then (below_then HB3.out y.ok) hb2) hb3) b).set _ _⟩
set_option maxHeartbeats 8000000 in
set_option maxRecDepth 100000 in
theorem store_3 (b : Nat) (c : Cl) (w : World) (hA : ClAt w b c) (ok : c.ok) (off v : Int) (o0 : 0 ≤ off) (h : off % 4 = 0) (v0 : 0 ≤ v) (v1 : v ≤ 4294967295) (k : Nat) (hk : k < 8) (hp : pl c.n off = some (3, (k : Int))) :
    Calls Try.prog 27 #[.pointer (some ⟨b, 0, none⟩), .int .u32 off, .int .u32 v] w fun e w' => e = .returned (.int .i64 0) ∧ ClAt w' b { c with cmp := upd c.cmp k (v * 4294967296 + c.cmp k % 4294967296) } ∧ But b w w' := by
  have HA := Lib.hid hA
  have HH := Lib.hid h
  have HP := Lib.hid hp
  have k0 : (0 : Int) ≤ (k : Int) := by omega
  have k8 : (k : Int) < 8 := by omega
  have hand := and1 v v0 v1
  have cb0 := ok.c0 k
  have cb1 := ok.c1 k
  clear hA h hp
  go_enter Try.func27, Try.ntmps27
  go_upto_region 4 with (go_at_call 51; refine (find_some b c _ HA.out ok.n1 off o0 HH.out (3, (k : Int)) HP.out).mono ?_; rintro e w1 ⟨rfl, hb1⟩)
  have hA1 := ClAt.ext HA.out hb1
  have hbl1 : b < w1.heap.size := RowAt.lt hA1
  have hbw : b < w.heap.size := RowAt.lt HA.out
  have hA2 := RowAt.alloc hA1 (.cells #[.int .i64 3, .int .i64 k] 87)
  have hP2 := RowAt.new w1 #[.int .i64 3, .int .i64 k] 87
  have hB2 := below_new hb1 (.cells #[.int .i64 3, .int .i64 k] 87)
  refine wp_name (Pr := fun W => ClAt W b c ∧ RowAt W w1.heap.size #[.int .i64 3, .int .i64 k] 87 ∧ Below w.heap.size w W) ⟨hA2, hP2, hB2⟩ ?_
  clear hA1 hA2 hP2 hB2 hb1
  rintro W ⟨hA3, hP3, hB3⟩
  obtain ⟨hkP, _⟩ := Ext.cells hP3
  have s0 : ∀ x : Ext W.heap.size W, x.world.cell? ⟨w1.heap.size, 1, none⟩ = some (.int .i64 k) := fun x => hkP x 1
  have HA3 := Lib.hid hA3
  have HP3 := Lib.hid hP3
  have HB3 := Lib.hid hB3
  clear hA3 hP3 hB3 hkP
  refine wp_start (w := W) ?_
  intro x
  refine wp_region_ext _ (by kernel_rfl) (by kernel_rfl) ?_
  repeat (go_big_quiet_step (fail))
  refine wpQuiet_nil ?_
  rintro _ ⟨y, rfl⟩
  have hAy := ClAt.ext HA3.out y.ok
  have e0 : y.world.cell? ⟨w1.heap.size, 0, none⟩ = some (.int .i64 3) := (RowAt.ext HP3.out y.ok).cell (i := 0) rfl
  have e1 := hAy.cc hk
  have e2 := hAy.cs hk
  have fz := RowAt.frozen hAy
  clear s0
  go_wp2_with (first | (go_at_call 54; refine (lo_any _ _ cb0 cb1).mono ?_; rintro e w2 ⟨rfl, hb2⟩; have e1 := (ClAt.ext hAy hb2).cc hk; have fz := RowAt.frozen (ClAt.ext hAy hb2)) | (go_at_call 52; refine (join_any _ _ _ (by omega) (by omega) (by omega) (by omega)).mono ?_; rintro e w3 ⟨rfl, hb3⟩; have e1 := (ClAt.ext (ClAt.ext hAy hb2) hb3).cc hk; have fz := RowAt.frozen (ClAt.ext (ClAt.ext hAy hb2) hb3)))
  go_ret
  have q := RowAt.set (ClAt.ext (ClAt.ext hAy hb2) hb3) (1 + k * 2) (.int .u64 (v * 4294967296 + c.cmp k % 4294967296))
  rw [Cl.set_cmp _ hk] at q
  exact ⟨rfl, q, (but_of (below_then (below_then (below_then HB3.out y.ok) hb2) hb3) b).set _ _⟩
set_option maxHeartbeats 8000000 in
set_option maxRecDepth 100000 in
theorem store_4 (b : Nat) (c : Cl) (w : World) (hA : ClAt w b c) (ok : c.ok) (off v : Int) (o0 : 0 ≤ off) (h : off % 4 = 0) (v0 : 0 ≤ v) (v1 : v ≤ 4294967295) (k : Nat) (hk : k < 8) (hp : pl c.n off = some (4, (k : Int))) :
    Calls Try.prog 27 #[.pointer (some ⟨b, 0, none⟩), .int .u32 off, .int .u32 v] w fun e w' => e = .returned (.int .i64 12) ∧ ClAt w' b c ∧ But b w w' := by
  have HA := Lib.hid hA
  have HH := Lib.hid h
  have HP := Lib.hid hp
  have k0 : (0 : Int) ≤ (k : Int) := by omega
  have k8 : (k : Int) < 8 := by omega
  have hand := and1 v v0 v1
  have cb0 := ok.c0 k
  have cb1 := ok.c1 k
  clear hA h hp
  go_enter Try.func27, Try.ntmps27
  go_upto_region 4 with (go_at_call 51; refine (find_some b c _ HA.out ok.n1 off o0 HH.out (4, (k : Int)) HP.out).mono ?_; rintro e w1 ⟨rfl, hb1⟩)
  have hA1 := ClAt.ext HA.out hb1
  have hbl1 : b < w1.heap.size := RowAt.lt hA1
  have hbw : b < w.heap.size := RowAt.lt HA.out
  have hA2 := RowAt.alloc hA1 (.cells #[.int .i64 4, .int .i64 k] 87)
  have hP2 := RowAt.new w1 #[.int .i64 4, .int .i64 k] 87
  have hB2 := below_new hb1 (.cells #[.int .i64 4, .int .i64 k] 87)
  refine wp_name (Pr := fun W => ClAt W b c ∧ RowAt W w1.heap.size #[.int .i64 4, .int .i64 k] 87 ∧ Below w.heap.size w W) ⟨hA2, hP2, hB2⟩ ?_
  clear hA1 hA2 hP2 hB2 hb1
  rintro W ⟨hA3, hP3, hB3⟩
  obtain ⟨hkP, _⟩ := Ext.cells hP3
  have s0 : ∀ x : Ext W.heap.size W, x.world.cell? ⟨w1.heap.size, 1, none⟩ = some (.int .i64 k) := fun x => hkP x 1
  have HA3 := Lib.hid hA3
  have HP3 := Lib.hid hP3
  have HB3 := Lib.hid hB3
  clear hA3 hP3 hB3 hkP
  refine wp_start (w := W) ?_
  intro x
  refine wp_region_ext _ (by kernel_rfl) (by kernel_rfl) ?_
  repeat (go_big_quiet_step (fail))
  refine wpQuiet_nil ?_
  rintro _ ⟨y, rfl⟩
  have hAy := ClAt.ext HA3.out y.ok
  have e0 : y.world.cell? ⟨w1.heap.size, 0, none⟩ = some (.int .i64 4) := (RowAt.ext HP3.out y.ok).cell (i := 0) rfl
  have e1 := hAy.cc hk
  have e2 := hAy.cs hk
  have fz := RowAt.frozen hAy
  clear s0
  go_wp2_with fail
  go_ret
  exact ⟨rfl, hAy, (but_of (below_then HB3.out y.ok) b)⟩
set_option maxHeartbeats 8000000 in
set_option maxRecDepth 100000 in
theorem store_5 (b : Nat) (c : Cl) (w : World) (hA : ClAt w b c) (ok : c.ok) (off v : Int) (o0 : 0 ≤ off) (h : off % 4 = 0) (v0 : 0 ≤ v) (v1 : v ≤ 4294967295) (k : Nat) (hk : k < 8) (hp : pl c.n off = some (5, (k : Int))) :
    Calls Try.prog 27 #[.pointer (some ⟨b, 0, none⟩), .int .u32 off, .int .u32 v] w fun e w' => e = .returned (.int .i64 12) ∧ ClAt w' b c ∧ But b w w' := by
  have HA := Lib.hid hA
  have HH := Lib.hid h
  have HP := Lib.hid hp
  have k0 : (0 : Int) ≤ (k : Int) := by omega
  have k8 : (k : Int) < 8 := by omega
  have hand := and1 v v0 v1
  have cb0 := ok.c0 k
  have cb1 := ok.c1 k
  clear hA h hp
  go_enter Try.func27, Try.ntmps27
  go_upto_region 4 with (go_at_call 51; refine (find_some b c _ HA.out ok.n1 off o0 HH.out (5, (k : Int)) HP.out).mono ?_; rintro e w1 ⟨rfl, hb1⟩)
  have hA1 := ClAt.ext HA.out hb1
  have hbl1 : b < w1.heap.size := RowAt.lt hA1
  have hbw : b < w.heap.size := RowAt.lt HA.out
  have hA2 := RowAt.alloc hA1 (.cells #[.int .i64 5, .int .i64 k] 87)
  have hP2 := RowAt.new w1 #[.int .i64 5, .int .i64 k] 87
  have hB2 := below_new hb1 (.cells #[.int .i64 5, .int .i64 k] 87)
  refine wp_name (Pr := fun W => ClAt W b c ∧ RowAt W w1.heap.size #[.int .i64 5, .int .i64 k] 87 ∧ Below w.heap.size w W) ⟨hA2, hP2, hB2⟩ ?_
  clear hA1 hA2 hP2 hB2 hb1
  rintro W ⟨hA3, hP3, hB3⟩
  obtain ⟨hkP, _⟩ := Ext.cells hP3
  have s0 : ∀ x : Ext W.heap.size W, x.world.cell? ⟨w1.heap.size, 1, none⟩ = some (.int .i64 k) := fun x => hkP x 1
  have HA3 := Lib.hid hA3
  have HP3 := Lib.hid hP3
  have HB3 := Lib.hid hB3
  clear hA3 hP3 hB3 hkP
  refine wp_start (w := W) ?_
  intro x
  refine wp_region_ext _ (by kernel_rfl) (by kernel_rfl) ?_
  repeat (go_big_quiet_step (fail))
  refine wpQuiet_nil ?_
  rintro _ ⟨y, rfl⟩
  have hAy := ClAt.ext HA3.out y.ok
  have e0 : y.world.cell? ⟨w1.heap.size, 0, none⟩ = some (.int .i64 5) := (RowAt.ext HP3.out y.ok).cell (i := 0) rfl
  have e1 := hAy.cc hk
  have e2 := hAy.cs hk
  have fz := RowAt.frozen hAy
  clear s0
  go_wp2_with fail
  go_ret
  exact ⟨rfl, hAy, (but_of (below_then HB3.out y.ok) b)⟩
theorem store_live (b : Nat) (c : Cl) (w : World) (hA : ClAt w b c) (ok : c.ok) (off v : Int) (o0 : 0 ≤ off) (v0 : 0 ≤ v) (v1 : v ≤ 4294967295) :
    Calls Try.prog 27 #[.pointer (some ⟨b, 0, none⟩), .int .u32 off, .int .u32 v] w fun e w' => e = .returned (.int .i64 (storeI c off v).2) ∧ ClAt w' b (storeI c off v).1 ∧ But b w w' := by
  unfold storeI
  by_cases h : off % 4 = 0
  · rw [if_neg (by omega)]
    cases hp : pl c.n off with
    | none => exact (store_none b c w hA ok.n1 off v o0 h hp).mono fun e w' h => ⟨h.1, ClAt.ext hA h.2, but_of h.2 b⟩
    | some p =>
      obtain ⟨p1, p2⟩ := p
      have hin := pl_in hp
      simp only at hin
      have hn := ok.n1
      obtain ⟨k, rfl⟩ : ∃ k : Nat, p2 = (k : Int) := ⟨p2.toNat, by omega⟩
      have hk : k < 8 := by omega
      have h5 : p1 = 1 ∨ p1 = 2 ∨ p1 = 3 ∨ p1 = 4 ∨ p1 = 5 := by omega
      rcases h5 with rfl | rfl | rfl | rfl | rfl
      · exact store_1 b c w hA ok off v o0 h v0 v1 k hk hp
      · exact store_2 b c w hA ok off v o0 h v0 v1 k hk hp
      · exact store_3 b c w hA ok off v o0 h v0 v1 k hk hp
      · exact store_4 b c w hA ok off v o0 h v0 v1 k hk hp
      · exact store_5 b c w hA ok off v o0 h v0 v1 k hk hp
  · rw [if_pos h]
    exact (store_odd b c w hA off v o0 h).mono fun e w' h => ⟨h.1, ClAt.ext hA h.2, but_of h.2 b⟩
end Go.Proofs.Ytaihebdjhbnhoaa
