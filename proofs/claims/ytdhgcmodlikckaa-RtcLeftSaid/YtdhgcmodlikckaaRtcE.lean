/- The document's stores; a clock and the document's are alike; the chapter's example. -/
import Derived.Test.YtdhgcmodlikckaaRtcD
import Derived.Deep.Cut
namespace Go.Proofs.Ytdhgcmodlikckaa
open Go.RowKit
set_option linter.unusedVariables false
set_option linter.unusedSimpArgs false

theorem St.raise_ok (s s1 : St) (ok : s1.ok) : (s.raise s1).ok := by
  unfold St.raise
  obtain ⟨s0, s1, a0, a1, r0, r1, t0, t1, d1⟩ := ok
  split
  · exact ⟨s0, s1, a0, a1, r0, r1, t0, t1, d1⟩
  · exact ⟨s0, s1, a0, a1, r0, r1, t0, t1, d1⟩
theorem St.reset_ok (s : St) (ok : s.ok) : s.reset.ok := by
  obtain ⟨s0, s1, a0, a1, r0, r1, t0, t1, d1⟩ := ok
  exact ⟨s0, s1, by show (0 : Int) ≤ 0; omega, by show (0 : Int) ≤ _; omega, r0, r1, by show (0 : Int) ≤ 0; omega, by show (0 : Int) ≤ _; omega, d1⟩
theorem St.store_ok (s : St) (ok : s.ok) (off v : Int) (v0 : 0 ≤ v) (v1 : v ≤ 4294967295) : (s.store off v).1.ok := by
  unfold St.store
  split
  · exact ok
  split
  · exact ok
  · exact St.raise_ok s _ (St.put_ok s ok _ v v0 v1)
theorem behind_rv (s s1 : St) (ok : s.ok) (ok1 : s1.ok) (w : World) : Calls Try.prog 61 #[s.rv, s1.rv] w fun e w' => e = .returned (s.raise s1).rv ∧ Below w.heap.size w w' := behind_any s s1 ok ok1 w
set_option maxHeartbeats 4000000 in
set_option maxRecDepth 100000 in
theorem rstore_err (s : St) (ok : s.ok) (off v : Int) (w : World) (o0 : 0 ≤ off) (o1 : off ≤ 4294967295) (h : (placeI off).2 ≠ 0) : Calls Try.prog 49 #[.agg #[.int .u32 s.div, .int .u32 s.rest, .int .u32 s.set, .int .u64 s.sec, .int .u32 (s.alarm % 4294967296), .int .u32 (s.alarm / 4294967296), .bool s.en, .bool s.ra], .int .u32 off, .int .u32 v] w fun e w' => e = .returned (.tuple #[s.rv, .int .i64 (placeI off).2]) ∧ Below w.heap.size w w' := by
  have HL := Lib.hid (fun w => rload_any s ok off w o0 o1)
  have e1 : s.load off = (0, (placeI off).2) := by rw [St.load, if_neg h]
  rw [e1] at HL
  have g : ((placeI off).2 != 0) = true := by simpa using h
  clear e1 h
  unfold St.rv
  go_enter Try.func49, Try.ntmps49
  go_wp2_with fail
  refine calls_box2 ?_
  intro W hB b0 b1 hW
  have R0 : RowAt W w.heap.size #[.int .u32 s.div, .int .u32 s.rest, .int .u32 s.set, .int .u64 s.sec, .int .u32 (s.alarm % 4294967296), .int .u32 (s.alarm / 4294967296), .bool s.en, .bool s.ra] 36 := b0
  have R1 : RowAt W (w.heap.size + 1) #[.int .u32 0, .int .u32 0, .int .u32 0, .int .u64 0, .int .u32 0, .int .u32 0, .bool false, .bool false] 36 := b1
  have hl0 := R0.lt
  have hl1 := R1.lt
  obtain ⟨hk0, hf0⟩ := Ext.cells b0
  obtain ⟨hk1, hf1⟩ := Ext.cells b1
  refine (HL.out _).mono ?_
  rintro e w1 ⟨rfl, hb1⟩
  obtain ⟨x, rfl⟩ := Ext.of hb1
  have hx0 := Nat.lt_of_lt_of_le hl0 x.ok.size
  have hx1 := Nat.lt_of_lt_of_le hl1 x.ok.size
  clear b0 b1 hb1 hW
  have HB := Lib.hid hB
  clear R0 R1 hB
  go_wp2_with fail
  refine bodyPost_ret (v := .tuple #[.agg #[.int .u32 s.div, .int .u32 s.rest, .int .u32 s.set, .int .u64 s.sec, .int .u32 (s.alarm % 4294967296), .int .u32 (s.alarm / 4294967296), .bool s.en, .bool s.ra], .int .i64 (placeI off).2]) (by simp [results, Try.results49, go_sem, hk0, hk1]) rfl ⟨rfl, ?_⟩
  iterate 8 refine below_set ?_ (by dsimp only; omega) _
  exact below_then HB.out x.ok
set_option maxHeartbeats 4000000 in
set_option maxRecDepth 100000 in
theorem rstore_0 (s : St) (ok : s.ok) (v : Int) (w : World) : Calls Try.prog 49 #[.agg #[.int .u32 s.div, .int .u32 s.rest, .int .u32 s.set, .int .u64 s.sec, .int .u32 (s.alarm % 4294967296), .int .u32 (s.alarm / 4294967296), .bool s.en, .bool s.ra], .int .u32 0, .int .u32 v] w fun e w' => e = .returned (.tuple #[s.rv, .int .i64 12]) ∧ Below w.heap.size w w' := by
  have HL := Lib.hid (fun w => rload_0 s ok w)
  have e1 : s.load 0 = (s.sec % 4294967296, 0) := by simp [St.load, placeI, St.words]
  rw [e1] at HL
  clear e1
  unfold St.rv
  go_enter Try.func49, Try.ntmps49
  go_wp2_with fail
  refine calls_box2 ?_
  intro W hB b0 b1 hW
  have R0 : RowAt W w.heap.size #[.int .u32 s.div, .int .u32 s.rest, .int .u32 s.set, .int .u64 s.sec, .int .u32 (s.alarm % 4294967296), .int .u32 (s.alarm / 4294967296), .bool s.en, .bool s.ra] 36 := b0
  have R1 : RowAt W (w.heap.size + 1) #[.int .u32 0, .int .u32 0, .int .u32 0, .int .u64 0, .int .u32 0, .int .u32 0, .bool false, .bool false] 36 := b1
  have hl0 := R0.lt
  have hl1 := R1.lt
  obtain ⟨hk0, hf0⟩ := Ext.cells b0
  obtain ⟨hk1, hf1⟩ := Ext.cells b1
  refine (HL.out _).mono ?_
  rintro e w1 ⟨rfl, hb1⟩
  obtain ⟨x, rfl⟩ := Ext.of hb1
  have hx0 := Nat.lt_of_lt_of_le hl0 x.ok.size
  have hx1 := Nat.lt_of_lt_of_le hl1 x.ok.size
  clear b0 b1 hb1 hW
  go_upto_region 6 with (fail)
  refine wp_name (Pr := fun W' => RowAt W' w.heap.size #[.int .u32 s.div, .int .u32 s.rest, .int .u32 s.set, .int .u64 s.sec, .int .u32 (s.alarm % 4294967296), .int .u32 (s.alarm / 4294967296), .bool s.en, .bool s.ra] 36 ∧ RowAt W' (w.heap.size + 1) #[.int .u32 0, .int .u32 0, .int .u32 0, .int .u64 0, .int .u32 0, .int .u32 0, .bool false, .bool false] 36 ∧ Below w.heap.size w W') ⟨RowAt.alloc (RowAt.ext R0 x.ok) _, RowAt.alloc (RowAt.ext R1 x.ok) _, below_new (below_then hB x.ok) _⟩ ?_
  clear R0 R1 hk0 hf0 hk1 hf1 hB hx0 hx1
  rintro W3 ⟨R0, R1, hB⟩
  obtain ⟨hk0, hf0⟩ := Ext.cells R0
  obtain ⟨hk1, hf1⟩ := Ext.cells R1
  refine wp_start (w := W3) ?_
  intro x
  have HB := Lib.hid hB
  clear R0 R1 hB
  go_wp2_with fail
  refine bodyPost_ret (v := .tuple #[.agg #[.int .u32 s.div, .int .u32 s.rest, .int .u32 s.set, .int .u64 s.sec, .int .u32 (s.alarm % 4294967296), .int .u32 (s.alarm / 4294967296), .bool s.en, .bool s.ra], .int .i64 12]) (by simp [results, Try.results49, go_sem, hk0, hk1]) rfl ⟨rfl, ?_⟩
  iterate 8 refine below_set ?_ (by dsimp only; omega) _
  exact below_then HB.out x.ok
set_option maxHeartbeats 4000000 in
set_option maxRecDepth 100000 in
theorem rstore_4 (s : St) (ok : s.ok) (v : Int) (w : World) : Calls Try.prog 49 #[.agg #[.int .u32 s.div, .int .u32 s.rest, .int .u32 s.set, .int .u64 s.sec, .int .u32 (s.alarm % 4294967296), .int .u32 (s.alarm / 4294967296), .bool s.en, .bool s.ra], .int .u32 4, .int .u32 v] w fun e w' => e = .returned (.tuple #[s.rv, .int .i64 12]) ∧ Below w.heap.size w w' := by
  have HL := Lib.hid (fun w => rload_4 s ok w)
  have e1 : s.load 4 = (s.sec / 4294967296, 0) := by simp [St.load, placeI, St.words]
  rw [e1] at HL
  clear e1
  unfold St.rv
  go_enter Try.func49, Try.ntmps49
  go_wp2_with fail
  refine calls_box2 ?_
  intro W hB b0 b1 hW
  have R0 : RowAt W w.heap.size #[.int .u32 s.div, .int .u32 s.rest, .int .u32 s.set, .int .u64 s.sec, .int .u32 (s.alarm % 4294967296), .int .u32 (s.alarm / 4294967296), .bool s.en, .bool s.ra] 36 := b0
  have R1 : RowAt W (w.heap.size + 1) #[.int .u32 0, .int .u32 0, .int .u32 0, .int .u64 0, .int .u32 0, .int .u32 0, .bool false, .bool false] 36 := b1
  have hl0 := R0.lt
  have hl1 := R1.lt
  obtain ⟨hk0, hf0⟩ := Ext.cells b0
  obtain ⟨hk1, hf1⟩ := Ext.cells b1
  refine (HL.out _).mono ?_
  rintro e w1 ⟨rfl, hb1⟩
  obtain ⟨x, rfl⟩ := Ext.of hb1
  have hx0 := Nat.lt_of_lt_of_le hl0 x.ok.size
  have hx1 := Nat.lt_of_lt_of_le hl1 x.ok.size
  clear b0 b1 hb1 hW
  go_upto_region 6 with (fail)
  refine wp_name (Pr := fun W' => RowAt W' w.heap.size #[.int .u32 s.div, .int .u32 s.rest, .int .u32 s.set, .int .u64 s.sec, .int .u32 (s.alarm % 4294967296), .int .u32 (s.alarm / 4294967296), .bool s.en, .bool s.ra] 36 ∧ RowAt W' (w.heap.size + 1) #[.int .u32 0, .int .u32 0, .int .u32 0, .int .u64 0, .int .u32 0, .int .u32 0, .bool false, .bool false] 36 ∧ Below w.heap.size w W') ⟨RowAt.alloc (RowAt.ext R0 x.ok) _, RowAt.alloc (RowAt.ext R1 x.ok) _, below_new (below_then hB x.ok) _⟩ ?_
  clear R0 R1 hk0 hf0 hk1 hf1 hB hx0 hx1
  rintro W3 ⟨R0, R1, hB⟩
  obtain ⟨hk0, hf0⟩ := Ext.cells R0
  obtain ⟨hk1, hf1⟩ := Ext.cells R1
  refine wp_start (w := W3) ?_
  intro x
  have HB := Lib.hid hB
  clear R0 R1 hB
  go_wp2_with fail
  refine bodyPost_ret (v := .tuple #[.agg #[.int .u32 s.div, .int .u32 s.rest, .int .u32 s.set, .int .u64 s.sec, .int .u32 (s.alarm % 4294967296), .int .u32 (s.alarm / 4294967296), .bool s.en, .bool s.ra], .int .i64 12]) (by simp [results, Try.results49, go_sem, hk0, hk1]) rfl ⟨rfl, ?_⟩
  iterate 8 refine below_set ?_ (by dsimp only; omega) _
  exact below_then HB.out x.ok
set_option maxHeartbeats 4000000 in
set_option maxRecDepth 100000 in
theorem rstore_32 (s : St) (ok : s.ok) (v : Int) (w : World) : Calls Try.prog 49 #[.agg #[.int .u32 s.div, .int .u32 s.rest, .int .u32 s.set, .int .u64 s.sec, .int .u32 (s.alarm % 4294967296), .int .u32 (s.alarm / 4294967296), .bool s.en, .bool s.ra], .int .u32 32, .int .u32 v] w fun e w' => e = .returned (.tuple #[s.rv, .int .i64 12]) ∧ Below w.heap.size w w' := by
  have HL := Lib.hid (fun w => rload_32 s ok w)
  have e1 : s.load 32 = (s.div, 0) := by simp [St.load, placeI, St.words]
  rw [e1] at HL
  clear e1
  unfold St.rv
  go_enter Try.func49, Try.ntmps49
  go_wp2_with fail
  refine calls_box2 ?_
  intro W hB b0 b1 hW
  have R0 : RowAt W w.heap.size #[.int .u32 s.div, .int .u32 s.rest, .int .u32 s.set, .int .u64 s.sec, .int .u32 (s.alarm % 4294967296), .int .u32 (s.alarm / 4294967296), .bool s.en, .bool s.ra] 36 := b0
  have R1 : RowAt W (w.heap.size + 1) #[.int .u32 0, .int .u32 0, .int .u32 0, .int .u64 0, .int .u32 0, .int .u32 0, .bool false, .bool false] 36 := b1
  have hl0 := R0.lt
  have hl1 := R1.lt
  obtain ⟨hk0, hf0⟩ := Ext.cells b0
  obtain ⟨hk1, hf1⟩ := Ext.cells b1
  refine (HL.out _).mono ?_
  rintro e w1 ⟨rfl, hb1⟩
  obtain ⟨x, rfl⟩ := Ext.of hb1
  have hx0 := Nat.lt_of_lt_of_le hl0 x.ok.size
  have hx1 := Nat.lt_of_lt_of_le hl1 x.ok.size
  clear b0 b1 hb1 hW
  go_upto_region 6 with (fail)
  refine wp_name (Pr := fun W' => RowAt W' w.heap.size #[.int .u32 s.div, .int .u32 s.rest, .int .u32 s.set, .int .u64 s.sec, .int .u32 (s.alarm % 4294967296), .int .u32 (s.alarm / 4294967296), .bool s.en, .bool s.ra] 36 ∧ RowAt W' (w.heap.size + 1) #[.int .u32 0, .int .u32 0, .int .u32 0, .int .u64 0, .int .u32 0, .int .u32 0, .bool false, .bool false] 36 ∧ Below w.heap.size w W') ⟨RowAt.alloc (RowAt.ext R0 x.ok) _, RowAt.alloc (RowAt.ext R1 x.ok) _, below_new (below_then hB x.ok) _⟩ ?_
  clear R0 R1 hk0 hf0 hk1 hf1 hB hx0 hx1
  rintro W3 ⟨R0, R1, hB⟩
  obtain ⟨hk0, hf0⟩ := Ext.cells R0
  obtain ⟨hk1, hf1⟩ := Ext.cells R1
  refine wp_start (w := W3) ?_
  intro x
  have HB := Lib.hid hB
  clear R0 R1 hB
  go_wp2_with fail
  refine bodyPost_ret (v := .tuple #[.agg #[.int .u32 s.div, .int .u32 s.rest, .int .u32 s.set, .int .u64 s.sec, .int .u32 (s.alarm % 4294967296), .int .u32 (s.alarm / 4294967296), .bool s.en, .bool s.ra], .int .i64 12]) (by simp [results, Try.results49, go_sem, hk0, hk1]) rfl ⟨rfl, ?_⟩
  iterate 8 refine below_set ?_ (by dsimp only; omega) _
  exact below_then HB.out x.ok
set_option maxHeartbeats 4000000 in
set_option maxRecDepth 100000 in
theorem rstore_8 (s : St) (ok : s.ok) (v : Int) (w : World) (v0 : 0 ≤ v) (v1 : v ≤ 4294967295) : Calls Try.prog 49 #[.agg #[.int .u32 s.div, .int .u32 s.rest, .int .u32 s.set, .int .u64 s.sec, .int .u32 (s.alarm % 4294967296), .int .u32 (s.alarm / 4294967296), .bool s.en, .bool s.ra], .int .u32 8, .int .u32 v] w fun e w' => e = .returned (.tuple #[(s.raise (s.put 2 v)).rv, .int .i64 0]) ∧ Below w.heap.size w w' := by
  have HL := Lib.hid (fun w => rload_8 s ok w)
  have e1 : s.load 8 = (s.set, 0) := by simp [St.load, placeI, St.words]
  rw [e1] at HL
  clear e1
  have hbe := fun w => behind_rv s (s.put 2 v) ok (St.put_ok s ok 2 v v0 v1) w
  obtain ⟨s0, s1, a0, a1, r0, r1, t0, t1, d1⟩ := ok
  have hv : (s.put 2 v).rv = .agg #[.int .u32 s.div, .int .u32 s.rest, .int .u32 v, .int .u64 s.sec, .int .u32 (s.alarm % 4294967296), .int .u32 (s.alarm / 4294967296), .bool s.en, .bool s.ra] := rfl
  rw [hv] at hbe
  have HBE := Lib.hid hbe
  clear hv hbe
  unfold St.rv at HBE ⊢
  go_enter Try.func49, Try.ntmps49
  go_wp2_with fail
  refine calls_box2 ?_
  intro W hB b0 b1 hW
  have R0 : RowAt W w.heap.size #[.int .u32 s.div, .int .u32 s.rest, .int .u32 s.set, .int .u64 s.sec, .int .u32 (s.alarm % 4294967296), .int .u32 (s.alarm / 4294967296), .bool s.en, .bool s.ra] 36 := b0
  have R1 : RowAt W (w.heap.size + 1) #[.int .u32 0, .int .u32 0, .int .u32 0, .int .u64 0, .int .u32 0, .int .u32 0, .bool false, .bool false] 36 := b1
  have hl0 := R0.lt
  have hl1 := R1.lt
  obtain ⟨hk0, hf0⟩ := Ext.cells b0
  obtain ⟨hk1, hf1⟩ := Ext.cells b1
  refine (HL.out _).mono ?_
  rintro e w1 ⟨rfl, hb1⟩
  obtain ⟨x, rfl⟩ := Ext.of hb1
  have hx0 := Nat.lt_of_lt_of_le hl0 x.ok.size
  have hx1 := Nat.lt_of_lt_of_le hl1 x.ok.size
  clear b0 b1 hb1 hW
  go_wp2_with fail
  refine calls_name (Pr := fun W' => RowAt W' (w.heap.size + 1) #[.int .u32 0, .int .u32 0, .int .u32 0, .int .u64 0, .int .u32 0, .int .u32 0, .bool false, .bool false] 36 ∧ Below w.heap.size w W') ⟨RowAt.alloc (RowAt.ext R1 x.ok) _, below_new (below_then hB x.ok) _⟩ ?_
  clear R1 hk0 hf0 hk1 hf1 R0 hB hx0 hx1
  rintro W3 ⟨R2, hB2⟩
  refine (HBE.out _).mono ?_
  rintro e wr ⟨rfl, hbr⟩
  have R3 : RowAt wr (w.heap.size + 1) #[.int .u32 0, .int .u32 0, .int .u32 0, .int .u64 0, .int .u32 0, .int .u32 0, .bool false, .bool false] 36 := RowAt.ext R2 hbr
  have kz : ∀ i v, #[.int .u32 0, .int .u32 0, .int .u32 0, .int .u64 0, .int .u32 0, .int .u32 0, .bool false, .bool false][i]? = some v → wr.cell? ⟨w.heap.size + 1, i, none⟩ = some v := fun i v h => R3.cell h
  have c0 := kz 0 _ rfl
  have c1 := kz 1 _ rfl
  have c2 := kz 2 _ rfl
  have c3 := kz 3 _ rfl
  have c4 := kz 4 _ rfl
  have c5 := kz 5 _ rfl
  have c6 := kz 6 _ rfl
  have c7 := kz 7 _ rfl
  have fz := R3.frozen
  have HB3 := Lib.hid (show Below w.heap.size w wr from below_then hB2 hbr)
  clear kz hbr hB2 R2 R3
  go_wp2_with fail
  refine bodyPost_ret (v := .tuple #[.agg #[.int .u32 (s.raise (s.put 2 v)).div, .int .u32 (s.raise (s.put 2 v)).rest, .int .u32 (s.raise (s.put 2 v)).set, .int .u64 (s.raise (s.put 2 v)).sec, .int .u32 ((s.raise (s.put 2 v)).alarm % 4294967296), .int .u32 ((s.raise (s.put 2 v)).alarm / 4294967296), .bool (s.raise (s.put 2 v)).en, .bool (s.raise (s.put 2 v)).ra], .int .i64 0]) (by simp [results, Try.results49, go_sem, c0, c1, c2, c3, c4, c5, c6, c7]) rfl ⟨rfl, ?_⟩
  iterate 8 refine below_set ?_ (by dsimp only; omega) _
  exact HB3.out
set_option maxHeartbeats 4000000 in
set_option maxRecDepth 100000 in
theorem rstore_12 (s : St) (ok : s.ok) (v : Int) (w : World) (v0 : 0 ≤ v) (v1 : v ≤ 4294967295) : Calls Try.prog 49 #[.agg #[.int .u32 s.div, .int .u32 s.rest, .int .u32 s.set, .int .u64 s.sec, .int .u32 (s.alarm % 4294967296), .int .u32 (s.alarm / 4294967296), .bool s.en, .bool s.ra], .int .u32 12, .int .u32 v] w fun e w' => e = .returned (.tuple #[(s.raise (s.put 3 v)).rv, .int .i64 0]) ∧ Below w.heap.size w w' := by
  have HL := Lib.hid (fun w => rload_12 s ok w)
  have e1 : s.load 12 = (0, 0) := by simp [St.load, placeI, St.words]
  rw [e1] at HL
  clear e1
  have hbe := fun w => behind_rv s (s.put 3 v) ok (St.put_ok s ok 3 v v0 v1) w
  obtain ⟨s0, s1, a0, a1, r0, r1, t0, t1, d1⟩ := ok
  have hv : (s.put 3 v).rv = .agg #[.int .u32 s.div, .int .u32 0, .int .u32 s.set, .int .u64 (v * 4294967296 + s.set), .int .u32 (s.alarm % 4294967296), .int .u32 (s.alarm / 4294967296), .bool s.en, .bool s.ra] := rfl
  rw [hv] at hbe
  have HBE := Lib.hid hbe
  clear hv hbe
  unfold St.rv at HBE ⊢
  go_enter Try.func49, Try.ntmps49
  go_wp2_with fail
  refine calls_box2 ?_
  intro W hB b0 b1 hW
  have R0 : RowAt W w.heap.size #[.int .u32 s.div, .int .u32 s.rest, .int .u32 s.set, .int .u64 s.sec, .int .u32 (s.alarm % 4294967296), .int .u32 (s.alarm / 4294967296), .bool s.en, .bool s.ra] 36 := b0
  have R1 : RowAt W (w.heap.size + 1) #[.int .u32 0, .int .u32 0, .int .u32 0, .int .u64 0, .int .u32 0, .int .u32 0, .bool false, .bool false] 36 := b1
  have hl0 := R0.lt
  have hl1 := R1.lt
  obtain ⟨hk0, hf0⟩ := Ext.cells b0
  obtain ⟨hk1, hf1⟩ := Ext.cells b1
  refine (HL.out _).mono ?_
  rintro e w1 ⟨rfl, hb1⟩
  obtain ⟨x, rfl⟩ := Ext.of hb1
  have hx0 := Nat.lt_of_lt_of_le hl0 x.ok.size
  have hx1 := Nat.lt_of_lt_of_le hl1 x.ok.size
  clear b0 b1 hb1 hW
  go_wp2_with fail
  refine calls_box ?_
  intro W2 hB2 b2 hW2
  have hne := Nat.lt_of_lt_of_le hx1 (Nat.le_refl _)
  have Q0 := (RowAt.ext R0 x.ok).ext hB2
  have Q1 := (RowAt.ext R1 x.ok).ext hB2
  have HB := Lib.hid (below_then (below_then hB x.ok) hB2)
  clear hk0 hf0 hk1 hf1
  obtain ⟨hk0, hf0⟩ := Ext.cells Q0
  obtain ⟨hk2, hf2⟩ := Ext.cells b2
  clear R0 R1 hB Q0 hB2
  refine (rjoin_any _ _ _ v0 v1 t0 t1).mono ?_
  rintro e wr ⟨rfl, hbr⟩
  obtain ⟨y, rfl⟩ := Ext.of hbr
  clear hbr
  go_wp2_with fail
  refine calls_name (Pr := fun W' => RowAt W' (w.heap.size + 1) #[.int .u32 0, .int .u32 0, .int .u32 0, .int .u64 0, .int .u32 0, .int .u32 0, .bool false, .bool false] 36 ∧ Below w.heap.size w W') ⟨(RowAt.ext Q1 y.ok).other (by dsimp only; omega) _ |>.other (by dsimp only; omega) _, below_set (below_set (below_then HB.out y.ok) (by dsimp only; omega) _) (by dsimp only; omega) _⟩ ?_
  rintro W3 ⟨R2, hB2⟩
  refine (HBE.out _).mono ?_
  rintro e wr ⟨rfl, hbr⟩
  have R3 : RowAt wr (w.heap.size + 1) #[.int .u32 0, .int .u32 0, .int .u32 0, .int .u64 0, .int .u32 0, .int .u32 0, .bool false, .bool false] 36 := RowAt.ext R2 hbr
  have kz : ∀ i v, #[.int .u32 0, .int .u32 0, .int .u32 0, .int .u64 0, .int .u32 0, .int .u32 0, .bool false, .bool false][i]? = some v → wr.cell? ⟨w.heap.size + 1, i, none⟩ = some v := fun i v h => R3.cell h
  have c0 := kz 0 _ rfl
  have c1 := kz 1 _ rfl
  have c2 := kz 2 _ rfl
  have c3 := kz 3 _ rfl
  have c4 := kz 4 _ rfl
  have c5 := kz 5 _ rfl
  have c6 := kz 6 _ rfl
  have c7 := kz 7 _ rfl
  have fz := R3.frozen
  have HB3 := Lib.hid (show Below w.heap.size w wr from below_then hB2 hbr)
  clear kz hbr hB2 R2 R3
  go_wp2_with fail
  refine bodyPost_ret (v := .tuple #[.agg #[.int .u32 (s.raise (s.put 3 v)).div, .int .u32 (s.raise (s.put 3 v)).rest, .int .u32 (s.raise (s.put 3 v)).set, .int .u64 (s.raise (s.put 3 v)).sec, .int .u32 ((s.raise (s.put 3 v)).alarm % 4294967296), .int .u32 ((s.raise (s.put 3 v)).alarm / 4294967296), .bool (s.raise (s.put 3 v)).en, .bool (s.raise (s.put 3 v)).ra], .int .i64 0]) (by simp [results, Try.results49, go_sem, c0, c1, c2, c3, c4, c5, c6, c7]) rfl ⟨rfl, ?_⟩
  iterate 8 refine below_set ?_ (by dsimp only; omega) _
  exact HB3.out
set_option maxHeartbeats 4000000 in
set_option maxRecDepth 100000 in
theorem rstore_16 (s : St) (ok : s.ok) (v : Int) (w : World) (v0 : 0 ≤ v) (v1 : v ≤ 4294967295) : Calls Try.prog 49 #[.agg #[.int .u32 s.div, .int .u32 s.rest, .int .u32 s.set, .int .u64 s.sec, .int .u32 (s.alarm % 4294967296), .int .u32 (s.alarm / 4294967296), .bool s.en, .bool s.ra], .int .u32 16, .int .u32 v] w fun e w' => e = .returned (.tuple #[(s.raise (s.put 4 v)).rv, .int .i64 0]) ∧ Below w.heap.size w w' := by
  have HL := Lib.hid (fun w => rload_16 s ok w)
  have e1 : s.load 16 = (s.alarm % 4294967296, 0) := by simp [St.load, placeI, St.words]
  rw [e1] at HL
  clear e1
  have hbe := fun w => behind_rv s (s.put 4 v) ok (St.put_ok s ok 4 v v0 v1) w
  obtain ⟨s0, s1, a0, a1, r0, r1, t0, t1, d1⟩ := ok
  have hv : (s.put 4 v).rv = .agg #[.int .u32 s.div, .int .u32 s.rest, .int .u32 s.set, .int .u64 s.sec, .int .u32 v, .int .u32 (s.alarm / 4294967296), .bool s.en, .bool s.ra] := by
    have : s.put 4 v = { s with alarm := s.alarm / 4294967296 * 4294967296 + v } := rfl
    rw [this]
    unfold St.rv
    have e1 : (s.alarm / 4294967296 * 4294967296 + v) % 4294967296 = v := by omega
    have e2 : (s.alarm / 4294967296 * 4294967296 + v) / 4294967296 = s.alarm / 4294967296 := by omega
    dsimp only
    rw [e1, e2]
  rw [hv] at hbe
  have HBE := Lib.hid hbe
  clear hv hbe
  unfold St.rv at HBE ⊢
  go_enter Try.func49, Try.ntmps49
  go_wp2_with fail
  refine calls_box2 ?_
  intro W hB b0 b1 hW
  have R0 : RowAt W w.heap.size #[.int .u32 s.div, .int .u32 s.rest, .int .u32 s.set, .int .u64 s.sec, .int .u32 (s.alarm % 4294967296), .int .u32 (s.alarm / 4294967296), .bool s.en, .bool s.ra] 36 := b0
  have R1 : RowAt W (w.heap.size + 1) #[.int .u32 0, .int .u32 0, .int .u32 0, .int .u64 0, .int .u32 0, .int .u32 0, .bool false, .bool false] 36 := b1
  have hl0 := R0.lt
  have hl1 := R1.lt
  obtain ⟨hk0, hf0⟩ := Ext.cells b0
  obtain ⟨hk1, hf1⟩ := Ext.cells b1
  refine (HL.out _).mono ?_
  rintro e w1 ⟨rfl, hb1⟩
  obtain ⟨x, rfl⟩ := Ext.of hb1
  have hx0 := Nat.lt_of_lt_of_le hl0 x.ok.size
  have hx1 := Nat.lt_of_lt_of_le hl1 x.ok.size
  clear b0 b1 hb1 hW
  go_wp2_with fail
  refine calls_name (Pr := fun W' => RowAt W' (w.heap.size + 1) #[.int .u32 0, .int .u32 0, .int .u32 0, .int .u64 0, .int .u32 0, .int .u32 0, .bool false, .bool false] 36 ∧ Below w.heap.size w W') ⟨RowAt.alloc (RowAt.ext R1 x.ok) _, below_new (below_then hB x.ok) _⟩ ?_
  clear R1 hk0 hf0 hk1 hf1 R0 hB hx0 hx1
  rintro W3 ⟨R2, hB2⟩
  refine (HBE.out _).mono ?_
  rintro e wr ⟨rfl, hbr⟩
  have R3 : RowAt wr (w.heap.size + 1) #[.int .u32 0, .int .u32 0, .int .u32 0, .int .u64 0, .int .u32 0, .int .u32 0, .bool false, .bool false] 36 := RowAt.ext R2 hbr
  have kz : ∀ i v, #[.int .u32 0, .int .u32 0, .int .u32 0, .int .u64 0, .int .u32 0, .int .u32 0, .bool false, .bool false][i]? = some v → wr.cell? ⟨w.heap.size + 1, i, none⟩ = some v := fun i v h => R3.cell h
  have c0 := kz 0 _ rfl
  have c1 := kz 1 _ rfl
  have c2 := kz 2 _ rfl
  have c3 := kz 3 _ rfl
  have c4 := kz 4 _ rfl
  have c5 := kz 5 _ rfl
  have c6 := kz 6 _ rfl
  have c7 := kz 7 _ rfl
  have fz := R3.frozen
  have HB3 := Lib.hid (show Below w.heap.size w wr from below_then hB2 hbr)
  clear kz hbr hB2 R2 R3
  go_wp2_with fail
  refine bodyPost_ret (v := .tuple #[.agg #[.int .u32 (s.raise (s.put 4 v)).div, .int .u32 (s.raise (s.put 4 v)).rest, .int .u32 (s.raise (s.put 4 v)).set, .int .u64 (s.raise (s.put 4 v)).sec, .int .u32 ((s.raise (s.put 4 v)).alarm % 4294967296), .int .u32 ((s.raise (s.put 4 v)).alarm / 4294967296), .bool (s.raise (s.put 4 v)).en, .bool (s.raise (s.put 4 v)).ra], .int .i64 0]) (by simp [results, Try.results49, go_sem, c0, c1, c2, c3, c4, c5, c6, c7]) rfl ⟨rfl, ?_⟩
  iterate 8 refine below_set ?_ (by dsimp only; omega) _
  exact HB3.out
set_option maxHeartbeats 4000000 in
set_option maxRecDepth 100000 in
theorem rstore_20 (s : St) (ok : s.ok) (v : Int) (w : World) (v0 : 0 ≤ v) (v1 : v ≤ 4294967295) : Calls Try.prog 49 #[.agg #[.int .u32 s.div, .int .u32 s.rest, .int .u32 s.set, .int .u64 s.sec, .int .u32 (s.alarm % 4294967296), .int .u32 (s.alarm / 4294967296), .bool s.en, .bool s.ra], .int .u32 20, .int .u32 v] w fun e w' => e = .returned (.tuple #[(s.raise (s.put 5 v)).rv, .int .i64 0]) ∧ Below w.heap.size w w' := by
  have HL := Lib.hid (fun w => rload_20 s ok w)
  have e1 : s.load 20 = (s.alarm / 4294967296, 0) := by simp [St.load, placeI, St.words]
  rw [e1] at HL
  clear e1
  have hbe := fun w => behind_rv s (s.put 5 v) ok (St.put_ok s ok 5 v v0 v1) w
  obtain ⟨s0, s1, a0, a1, r0, r1, t0, t1, d1⟩ := ok
  have hv : (s.put 5 v).rv = .agg #[.int .u32 s.div, .int .u32 s.rest, .int .u32 s.set, .int .u64 s.sec, .int .u32 (s.alarm % 4294967296), .int .u32 v, .bool s.en, .bool s.ra] := by
    have : s.put 5 v = { s with alarm := v * 4294967296 + s.alarm % 4294967296 } := rfl
    rw [this]
    unfold St.rv
    have e1 : (v * 4294967296 + s.alarm % 4294967296) % 4294967296 = s.alarm % 4294967296 := by omega
    have e2 : (v * 4294967296 + s.alarm % 4294967296) / 4294967296 = v := by omega
    dsimp only
    rw [e1, e2]
  rw [hv] at hbe
  have HBE := Lib.hid hbe
  clear hv hbe
  unfold St.rv at HBE ⊢
  go_enter Try.func49, Try.ntmps49
  go_wp2_with fail
  refine calls_box2 ?_
  intro W hB b0 b1 hW
  have R0 : RowAt W w.heap.size #[.int .u32 s.div, .int .u32 s.rest, .int .u32 s.set, .int .u64 s.sec, .int .u32 (s.alarm % 4294967296), .int .u32 (s.alarm / 4294967296), .bool s.en, .bool s.ra] 36 := b0
  have R1 : RowAt W (w.heap.size + 1) #[.int .u32 0, .int .u32 0, .int .u32 0, .int .u64 0, .int .u32 0, .int .u32 0, .bool false, .bool false] 36 := b1
  have hl0 := R0.lt
  have hl1 := R1.lt
  obtain ⟨hk0, hf0⟩ := Ext.cells b0
  obtain ⟨hk1, hf1⟩ := Ext.cells b1
  refine (HL.out _).mono ?_
  rintro e w1 ⟨rfl, hb1⟩
  obtain ⟨x, rfl⟩ := Ext.of hb1
  have hx0 := Nat.lt_of_lt_of_le hl0 x.ok.size
  have hx1 := Nat.lt_of_lt_of_le hl1 x.ok.size
  clear b0 b1 hb1 hW
  go_wp2_with fail
  refine calls_name (Pr := fun W' => RowAt W' (w.heap.size + 1) #[.int .u32 0, .int .u32 0, .int .u32 0, .int .u64 0, .int .u32 0, .int .u32 0, .bool false, .bool false] 36 ∧ Below w.heap.size w W') ⟨RowAt.alloc (RowAt.ext R1 x.ok) _, below_new (below_then hB x.ok) _⟩ ?_
  clear R1 hk0 hf0 hk1 hf1 R0 hB hx0 hx1
  rintro W3 ⟨R2, hB2⟩
  refine (HBE.out _).mono ?_
  rintro e wr ⟨rfl, hbr⟩
  have R3 : RowAt wr (w.heap.size + 1) #[.int .u32 0, .int .u32 0, .int .u32 0, .int .u64 0, .int .u32 0, .int .u32 0, .bool false, .bool false] 36 := RowAt.ext R2 hbr
  have kz : ∀ i v, #[.int .u32 0, .int .u32 0, .int .u32 0, .int .u64 0, .int .u32 0, .int .u32 0, .bool false, .bool false][i]? = some v → wr.cell? ⟨w.heap.size + 1, i, none⟩ = some v := fun i v h => R3.cell h
  have c0 := kz 0 _ rfl
  have c1 := kz 1 _ rfl
  have c2 := kz 2 _ rfl
  have c3 := kz 3 _ rfl
  have c4 := kz 4 _ rfl
  have c5 := kz 5 _ rfl
  have c6 := kz 6 _ rfl
  have c7 := kz 7 _ rfl
  have fz := R3.frozen
  have HB3 := Lib.hid (show Below w.heap.size w wr from below_then hB2 hbr)
  clear kz hbr hB2 R2 R3
  go_wp2_with fail
  refine bodyPost_ret (v := .tuple #[.agg #[.int .u32 (s.raise (s.put 5 v)).div, .int .u32 (s.raise (s.put 5 v)).rest, .int .u32 (s.raise (s.put 5 v)).set, .int .u64 (s.raise (s.put 5 v)).sec, .int .u32 ((s.raise (s.put 5 v)).alarm % 4294967296), .int .u32 ((s.raise (s.put 5 v)).alarm / 4294967296), .bool (s.raise (s.put 5 v)).en, .bool (s.raise (s.put 5 v)).ra], .int .i64 0]) (by simp [results, Try.results49, go_sem, c0, c1, c2, c3, c4, c5, c6, c7]) rfl ⟨rfl, ?_⟩
  iterate 8 refine below_set ?_ (by dsimp only; omega) _
  exact HB3.out
set_option maxHeartbeats 4000000 in
set_option maxRecDepth 100000 in
theorem rstore_24 (s : St) (ok : s.ok) (v : Int) (w : World) (v0 : 0 ≤ v) (v1 : v ≤ 4294967295) : Calls Try.prog 49 #[.agg #[.int .u32 s.div, .int .u32 s.rest, .int .u32 s.set, .int .u64 s.sec, .int .u32 (s.alarm % 4294967296), .int .u32 (s.alarm / 4294967296), .bool s.en, .bool s.ra], .int .u32 24, .int .u32 v] w fun e w' => e = .returned (.tuple #[(s.raise (s.put 6 v)).rv, .int .i64 0]) ∧ Below w.heap.size w w' := by
  have HL := Lib.hid (fun w => rload_24 s ok w)
  have e1 : s.load 24 = (flagI s.en, 0) := by simp [St.load, placeI, St.words]
  rw [e1] at HL
  clear e1
  have hbe := fun w => behind_rv s (s.put 6 v) ok (St.put_ok s ok 6 v v0 v1) w
  obtain ⟨s0, s1, a0, a1, r0, r1, t0, t1, d1⟩ := ok
  have hv : (s.put 6 v).rv = .agg #[.int .u32 s.div, .int .u32 s.rest, .int .u32 s.set, .int .u64 s.sec, .int .u32 (s.alarm % 4294967296), .int .u32 (s.alarm / 4294967296), .bool (v % 2 == 1), .bool s.ra] := rfl
  rw [hv] at hbe
  have HBE := Lib.hid hbe
  clear hv hbe
  unfold St.rv at HBE ⊢
  go_enter Try.func49, Try.ntmps49
  go_wp2_with fail
  refine calls_box2 ?_
  intro W hB b0 b1 hW
  have R0 : RowAt W w.heap.size #[.int .u32 s.div, .int .u32 s.rest, .int .u32 s.set, .int .u64 s.sec, .int .u32 (s.alarm % 4294967296), .int .u32 (s.alarm / 4294967296), .bool s.en, .bool s.ra] 36 := b0
  have R1 : RowAt W (w.heap.size + 1) #[.int .u32 0, .int .u32 0, .int .u32 0, .int .u64 0, .int .u32 0, .int .u32 0, .bool false, .bool false] 36 := b1
  have hl0 := R0.lt
  have hl1 := R1.lt
  obtain ⟨hk0, hf0⟩ := Ext.cells b0
  obtain ⟨hk1, hf1⟩ := Ext.cells b1
  refine (HL.out _).mono ?_
  rintro e w1 ⟨rfl, hb1⟩
  obtain ⟨x, rfl⟩ := Ext.of hb1
  have hx0 := Nat.lt_of_lt_of_le hl0 x.ok.size
  have hx1 := Nat.lt_of_lt_of_le hl1 x.ok.size
  clear b0 b1 hb1 hW
  go_wp2_with fail
  refine calls_name (Pr := fun W' => RowAt W' (w.heap.size + 1) #[.int .u32 0, .int .u32 0, .int .u32 0, .int .u64 0, .int .u32 0, .int .u32 0, .bool false, .bool false] 36 ∧ Below w.heap.size w W') ⟨RowAt.alloc (RowAt.ext R1 x.ok) _, below_new (below_then hB x.ok) _⟩ ?_
  clear R1 hk0 hf0 hk1 hf1 R0 hB hx0 hx1
  rintro W3 ⟨R2, hB2⟩
  refine (HBE.out _).mono ?_
  rintro e wr ⟨rfl, hbr⟩
  have R3 : RowAt wr (w.heap.size + 1) #[.int .u32 0, .int .u32 0, .int .u32 0, .int .u64 0, .int .u32 0, .int .u32 0, .bool false, .bool false] 36 := RowAt.ext R2 hbr
  have kz : ∀ i v, #[.int .u32 0, .int .u32 0, .int .u32 0, .int .u64 0, .int .u32 0, .int .u32 0, .bool false, .bool false][i]? = some v → wr.cell? ⟨w.heap.size + 1, i, none⟩ = some v := fun i v h => R3.cell h
  have c0 := kz 0 _ rfl
  have c1 := kz 1 _ rfl
  have c2 := kz 2 _ rfl
  have c3 := kz 3 _ rfl
  have c4 := kz 4 _ rfl
  have c5 := kz 5 _ rfl
  have c6 := kz 6 _ rfl
  have c7 := kz 7 _ rfl
  have fz := R3.frozen
  have HB3 := Lib.hid (show Below w.heap.size w wr from below_then hB2 hbr)
  clear kz hbr hB2 R2 R3
  go_wp2_with fail
  refine bodyPost_ret (v := .tuple #[.agg #[.int .u32 (s.raise (s.put 6 v)).div, .int .u32 (s.raise (s.put 6 v)).rest, .int .u32 (s.raise (s.put 6 v)).set, .int .u64 (s.raise (s.put 6 v)).sec, .int .u32 ((s.raise (s.put 6 v)).alarm % 4294967296), .int .u32 ((s.raise (s.put 6 v)).alarm / 4294967296), .bool (s.raise (s.put 6 v)).en, .bool (s.raise (s.put 6 v)).ra], .int .i64 0]) (by simp [results, Try.results49, go_sem, c0, c1, c2, c3, c4, c5, c6, c7]) rfl ⟨rfl, ?_⟩
  iterate 8 refine below_set ?_ (by dsimp only; omega) _
  exact HB3.out
set_option maxHeartbeats 4000000 in
set_option maxRecDepth 100000 in
theorem rstore_28 (s : St) (ok : s.ok) (v : Int) (w : World) (v0 : 0 ≤ v) (v1 : v ≤ 4294967295) : Calls Try.prog 49 #[.agg #[.int .u32 s.div, .int .u32 s.rest, .int .u32 s.set, .int .u64 s.sec, .int .u32 (s.alarm % 4294967296), .int .u32 (s.alarm / 4294967296), .bool s.en, .bool s.ra], .int .u32 28, .int .u32 v] w fun e w' => e = .returned (.tuple #[(s.raise (s.put 7 v)).rv, .int .i64 0]) ∧ Below w.heap.size w w' := by
  have HL := Lib.hid (fun w => rload_28 s ok w)
  have e1 : s.load 28 = (flagI s.ra, 0) := by simp [St.load, placeI, St.words]
  rw [e1] at HL
  clear e1
  have hbe := fun w => behind_rv s (s.put 7 v) ok (St.put_ok s ok 7 v v0 v1) w
  obtain ⟨s0, s1, a0, a1, r0, r1, t0, t1, d1⟩ := ok
  rcases Bool.eq_false_or_eq_true (v % 2 == 1) with hv2 | hv2
  · have hz : (v % 2 == 0) = false := by simp at hv2 ⊢; omega
    have hv : (s.put 7 v).rv = .agg #[.int .u32 s.div, .int .u32 s.rest, .int .u32 s.set, .int .u64 s.sec, .int .u32 (s.alarm % 4294967296), .int .u32 (s.alarm / 4294967296), .bool s.en, .bool false] := by
      have : s.put 7 v = { s with ra := s.ra && v % 2 == 0 } := rfl
      rw [this, hz]
      unfold St.rv
      simp
    rw [hv] at hbe
    have HBE := Lib.hid hbe
    clear hv hbe hz
    unfold St.rv at HBE ⊢
    go_enter Try.func49, Try.ntmps49
    go_wp2_with fail
    refine calls_box2 ?_
    intro W hB b0 b1 hW
    have R0 : RowAt W w.heap.size #[.int .u32 s.div, .int .u32 s.rest, .int .u32 s.set, .int .u64 s.sec, .int .u32 (s.alarm % 4294967296), .int .u32 (s.alarm / 4294967296), .bool s.en, .bool s.ra] 36 := b0
    have R1 : RowAt W (w.heap.size + 1) #[.int .u32 0, .int .u32 0, .int .u32 0, .int .u64 0, .int .u32 0, .int .u32 0, .bool false, .bool false] 36 := b1
    have hl0 := R0.lt
    have hl1 := R1.lt
    obtain ⟨hk0, hf0⟩ := Ext.cells b0
    obtain ⟨hk1, hf1⟩ := Ext.cells b1
    refine (HL.out _).mono ?_
    rintro e w1 ⟨rfl, hb1⟩
    obtain ⟨x, rfl⟩ := Ext.of hb1
    have hx0 := Nat.lt_of_lt_of_le hl0 x.ok.size
    have hx1 := Nat.lt_of_lt_of_le hl1 x.ok.size
    clear b0 b1 hb1 hW
    go_wp2_with fail
    refine calls_name (Pr := fun W' => RowAt W' (w.heap.size + 1) #[.int .u32 0, .int .u32 0, .int .u32 0, .int .u64 0, .int .u32 0, .int .u32 0, .bool false, .bool false] 36 ∧ Below w.heap.size w W') ⟨RowAt.alloc (RowAt.ext R1 x.ok) _, below_new (below_then hB x.ok) _⟩ ?_
    clear R1 hk0 hf0 hk1 hf1 R0 hB hx0 hx1
    rintro W3 ⟨R2, hB2⟩
    refine (HBE.out _).mono ?_
    rintro e wr ⟨rfl, hbr⟩
    have R3 : RowAt wr (w.heap.size + 1) #[.int .u32 0, .int .u32 0, .int .u32 0, .int .u64 0, .int .u32 0, .int .u32 0, .bool false, .bool false] 36 := RowAt.ext R2 hbr
    have kz : ∀ i v, #[.int .u32 0, .int .u32 0, .int .u32 0, .int .u64 0, .int .u32 0, .int .u32 0, .bool false, .bool false][i]? = some v → wr.cell? ⟨w.heap.size + 1, i, none⟩ = some v := fun i v h => R3.cell h
    have c0 := kz 0 _ rfl
    have c1 := kz 1 _ rfl
    have c2 := kz 2 _ rfl
    have c3 := kz 3 _ rfl
    have c4 := kz 4 _ rfl
    have c5 := kz 5 _ rfl
    have c6 := kz 6 _ rfl
    have c7 := kz 7 _ rfl
    have fz := R3.frozen
    have HB3 := Lib.hid (show Below w.heap.size w wr from below_then hB2 hbr)
    clear kz hbr hB2 R2 R3
    go_wp2_with fail
    refine bodyPost_ret (v := .tuple #[.agg #[.int .u32 (s.raise (s.put 7 v)).div, .int .u32 (s.raise (s.put 7 v)).rest, .int .u32 (s.raise (s.put 7 v)).set, .int .u64 (s.raise (s.put 7 v)).sec, .int .u32 ((s.raise (s.put 7 v)).alarm % 4294967296), .int .u32 ((s.raise (s.put 7 v)).alarm / 4294967296), .bool (s.raise (s.put 7 v)).en, .bool (s.raise (s.put 7 v)).ra], .int .i64 0]) (by simp [results, Try.results49, go_sem, c0, c1, c2, c3, c4, c5, c6, c7]) rfl ⟨rfl, ?_⟩
    iterate 8 refine below_set ?_ (by dsimp only; omega) _
    exact HB3.out
  · have hz : (v % 2 == 0) = true := by simp at hv2 ⊢; omega
    have hv : (s.put 7 v).rv = .agg #[.int .u32 s.div, .int .u32 s.rest, .int .u32 s.set, .int .u64 s.sec, .int .u32 (s.alarm % 4294967296), .int .u32 (s.alarm / 4294967296), .bool s.en, .bool s.ra] := by
      have : s.put 7 v = { s with ra := s.ra && v % 2 == 0 } := rfl
      rw [this, hz]
      unfold St.rv
      simp
    rw [hv] at hbe
    have HBE := Lib.hid hbe
    clear hv hbe hz
    unfold St.rv at HBE ⊢
    go_enter Try.func49, Try.ntmps49
    go_wp2_with fail
    refine calls_box2 ?_
    intro W hB b0 b1 hW
    have R0 : RowAt W w.heap.size #[.int .u32 s.div, .int .u32 s.rest, .int .u32 s.set, .int .u64 s.sec, .int .u32 (s.alarm % 4294967296), .int .u32 (s.alarm / 4294967296), .bool s.en, .bool s.ra] 36 := b0
    have R1 : RowAt W (w.heap.size + 1) #[.int .u32 0, .int .u32 0, .int .u32 0, .int .u64 0, .int .u32 0, .int .u32 0, .bool false, .bool false] 36 := b1
    have hl0 := R0.lt
    have hl1 := R1.lt
    obtain ⟨hk0, hf0⟩ := Ext.cells b0
    obtain ⟨hk1, hf1⟩ := Ext.cells b1
    refine (HL.out _).mono ?_
    rintro e w1 ⟨rfl, hb1⟩
    obtain ⟨x, rfl⟩ := Ext.of hb1
    have hx0 := Nat.lt_of_lt_of_le hl0 x.ok.size
    have hx1 := Nat.lt_of_lt_of_le hl1 x.ok.size
    clear b0 b1 hb1 hW
    go_wp2_with fail
    refine calls_name (Pr := fun W' => RowAt W' (w.heap.size + 1) #[.int .u32 0, .int .u32 0, .int .u32 0, .int .u64 0, .int .u32 0, .int .u32 0, .bool false, .bool false] 36 ∧ Below w.heap.size w W') ⟨RowAt.alloc (RowAt.ext R1 x.ok) _, below_new (below_then hB x.ok) _⟩ ?_
    clear R1 hk0 hf0 hk1 hf1 R0 hB hx0 hx1
    rintro W3 ⟨R2, hB2⟩
    refine (HBE.out _).mono ?_
    rintro e wr ⟨rfl, hbr⟩
    have R3 : RowAt wr (w.heap.size + 1) #[.int .u32 0, .int .u32 0, .int .u32 0, .int .u64 0, .int .u32 0, .int .u32 0, .bool false, .bool false] 36 := RowAt.ext R2 hbr
    have kz : ∀ i v, #[.int .u32 0, .int .u32 0, .int .u32 0, .int .u64 0, .int .u32 0, .int .u32 0, .bool false, .bool false][i]? = some v → wr.cell? ⟨w.heap.size + 1, i, none⟩ = some v := fun i v h => R3.cell h
    have c0 := kz 0 _ rfl
    have c1 := kz 1 _ rfl
    have c2 := kz 2 _ rfl
    have c3 := kz 3 _ rfl
    have c4 := kz 4 _ rfl
    have c5 := kz 5 _ rfl
    have c6 := kz 6 _ rfl
    have c7 := kz 7 _ rfl
    have fz := R3.frozen
    have HB3 := Lib.hid (show Below w.heap.size w wr from below_then hB2 hbr)
    clear kz hbr hB2 R2 R3
    go_wp2_with fail
    refine bodyPost_ret (v := .tuple #[.agg #[.int .u32 (s.raise (s.put 7 v)).div, .int .u32 (s.raise (s.put 7 v)).rest, .int .u32 (s.raise (s.put 7 v)).set, .int .u64 (s.raise (s.put 7 v)).sec, .int .u32 ((s.raise (s.put 7 v)).alarm % 4294967296), .int .u32 ((s.raise (s.put 7 v)).alarm / 4294967296), .bool (s.raise (s.put 7 v)).en, .bool (s.raise (s.put 7 v)).ra], .int .i64 0]) (by simp [results, Try.results49, go_sem, c0, c1, c2, c3, c4, c5, c6, c7]) rfl ⟨rfl, ?_⟩
    iterate 8 refine below_set ?_ (by dsimp only; omega) _
    exact HB3.out
theorem rstore_any (s : St) (ok : s.ok) (off v : Int) (w : World) (o0 : 0 ≤ off) (o1 : off ≤ 4294967295) (v0 : 0 ≤ v) (v1 : v ≤ 4294967295) : Calls Try.prog 49 #[.agg #[.int .u32 s.div, .int .u32 s.rest, .int .u32 s.set, .int .u64 s.sec, .int .u32 (s.alarm % 4294967296), .int .u32 (s.alarm / 4294967296), .bool s.en, .bool s.ra], .int .u32 off, .int .u32 v] w fun e w' => e = .returned (.tuple #[(s.store off v).1.rv, .int .i64 (s.store off v).2]) ∧ Below w.heap.size w w' := by
  by_cases hp : (placeI off).2 ≠ 0
  · have e1 : s.store off v = (s, (placeI off).2) := by rw [St.store, if_pos hp]
    rw [e1]
    exact rstore_err s ok off v w o0 o1 hp
  · have hc : off = 0 ∨ off = 4 ∨ off = 8 ∨ off = 12 ∨ off = 16 ∨ off = 20 ∨ off = 24 ∨ off = 28 ∨ off = 32 := by
      rcases place_cases off with ⟨_, hm, hl⟩ | ⟨_, he⟩
      · omega
      · omega
    rcases hc with rfl | rfl | rfl | rfl | rfl | rfl | rfl | rfl | rfl
    · exact rstore_0 s ok v w
    · exact rstore_4 s ok v w
    · exact rstore_8 s ok v w v0 v1
    · exact rstore_12 s ok v w v0 v1
    · exact rstore_16 s ok v w v0 v1
    · exact rstore_20 s ok v w v0 v1
    · exact rstore_24 s ok v w v0 v1
    · exact rstore_28 s ok v w v0 v1
    · exact rstore_32 s ok v w
end Go.Proofs.Ytdhgcmodlikckaa
