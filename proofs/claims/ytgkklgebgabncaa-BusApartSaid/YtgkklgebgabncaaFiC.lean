/- A file of registers in memory: turn, Store. -/
import Derived.Test.YtgkklgebgabncaaFiB
import Derived.Test.YtgkklgebgabncaaBitsw
import Derived.Laws.Closers25b
namespace Go.Proofs.Ytgkklgebgabncaa
open Go.RowKit
set_option linter.unusedVariables false
set_option linter.unusedSimpArgs false

def onlyB (x : Rg) : Bool := bits .or .u32 x.wr x.c == 0
def stoE (l : Fm) (off : Int) : Int := if findE l off = 0 then (if onlyB (findV l off) = true then 12 else 0) else findE l off
def stoV (x : Rg) (v : Int) : Rg := { x with v := storeI x.v x.wr x.c v }
def stoL (l : Fm) (off v : Int) : Fm := if stoE l off = 0 then l.put off (stoV (findV l off) v) else l
theorem some_of {l : Fm} {off : Int} (h : findE l off = 0) : off % 4 = 0 ∧ l off = some (findV l off) := by
  unfold findE at h
  unfold findV
  by_cases h4 : off % 4 = 0
  · cases hl : l off with
    | none => simp [h4, hl] at h
    | some x => simp [h4]
  · simp [h4] at h
theorem storeI_in (a x c v : Int) : 0 ≤ storeI a x c v ∧ storeI a x c v ≤ 4294967295 := bits_within .andNot .u32 _ _
theorem stoV_ok {x : Rg} (h : x.ok) (v : Int) : (stoV x v).ok := ⟨storeI_in _ _ _ _, h.2⟩
theorem storeI_full (a v : Int) (a0 : 0 ≤ a) (a1 : a ≤ 4294967295) (v0 : 0 ≤ v) (v1 : v ≤ 4294967295) : storeI a 4294967295 0 v = v := by
  have n0 : (0 : Int) ≤ 4294967295 := by decide
  have n1 : (4294967295 : Int) ≤ 4294967295 := by decide
  have m0 : (0 : Int) ≤ 0 := by decide
  have m1 : (0 : Int) ≤ 4294967295 := by decide
  obtain ⟨p0, p1, p2⟩ := andNot_u32 a 4294967295 a0 a1 n0 n1
  obtain ⟨q0, q1, q2⟩ := and_u32 v 4294967295 v0 v1 n0 n1
  obtain ⟨s0, s1, s2⟩ := or_u32 _ _ p0 p1 q0 q1
  obtain ⟨t0, t1, t2⟩ := and_u32 v 0 v0 v1 m0 m1
  obtain ⟨u0, u1, u2⟩ := andNot_u32 _ _ s0 s1 t0 t1
  refine bits_ext u0 u1 v0 v1 fun i hi => ?_
  have k1 : bitI 4294967295 i = true := by
    have h : ∀ i, i < 32 → bitI 4294967295 i = true := by decide
    exact h i hi
  have k2 : bitI 0 i = false := by
    have h : ∀ i, i < 32 → bitI 0 i = false := by decide
    exact h i hi
  rw [storeI, u2 i hi, s2 i hi, p2 i hi, q2 i hi, t2 i hi, k1, k2]
  cases bitI a i <;> cases bitI v i <;> rfl
set_option maxHeartbeats 8000000 in
set_option maxRecDepth 100000 in
theorem clo_only (xv xr xw xc : Int) (bx : Nat) (w : World) (h : (bits .or .u32 xw xc == 0) = true) :
    Calls Try.prog 46 #[.agg #[.int .u32 xv, .int .u32 xr, .int .u32 xw, .int .u32 xc], .pointer (some ⟨bx, 0, none⟩)] w fun e w' => e = .returned (.tuple #[.agg #[.int .u32 xv, .int .u32 xr, .int .u32 xw, .int .u32 xc], .int .i64 12]) ∧ Below w.heap.size w w' := by
  go_enter Try.func46, Try.ntmps46
  go_upto_region 1 with fail
  refine wp_name (Pr := fun W => RowAt W w.heap.size #[.int .u32 xv, .int .u32 xr, .int .u32 xw, .int .u32 xc] 28 ∧ RowAt W (w.heap.size + 1) #[.int .u32 0, .int .u32 0, .int .u32 0, .int .u32 0] 28 ∧ Below w.heap.size w W) ⟨(RowAt.new w _ _).alloc _, by have h := RowAt.new (w.alloc (.cells #[.int .u32 xv, .int .u32 xr, .int .u32 xw, .int .u32 xc] 28 )) #[.int .u32 0, .int .u32 0, .int .u32 0, .int .u32 0] 28 ; simpa using h, below_new (below_new (Below.refl _ _) _) _⟩ ?_
  rintro W ⟨hX, hZ, hB⟩
  have HX := Lib.hid hX
  have HZ := Lib.hid hZ
  have HB := Lib.hid hB
  have x0 := hX.cell (i := 0) rfl
  have x1 := hX.cell (i := 1) rfl
  have x2 := hX.cell (i := 2) rfl
  have x3 := hX.cell (i := 3) rfl
  clear hX hZ hB
  go_upto_region 2 with (go_at_call 47; refine (only_any _ _ _ _ _).mono ?_; rintro e w1 ⟨rfl, hb1⟩; rw [h])
  refine wp_name (Pr := fun W2 => Below W.heap.size W W2) hb1 ?_
  clear hb1 x0 x1 x2 x3
  rintro W2 hb
  have hX := RowAt.ext HX.out hb
  have hZ := RowAt.ext HZ.out hb
  have x0 := hX.cell (i := 0) rfl
  have x1 := hX.cell (i := 1) rfl
  have x2 := hX.cell (i := 2) rfl
  have x3 := hX.cell (i := 3) rfl
  have z0 := hZ.cell (i := 0) rfl
  have z1 := hZ.cell (i := 1) rfl
  have z2 := hZ.cell (i := 2) rfl
  have z3 := hZ.cell (i := 3) rfl
  have f0 := hZ.frozen 0
  have f1 := hZ.frozen 1
  have f2 := hZ.frozen 2
  have f3 := hZ.frozen 3
  have HB2 := Lib.hid (below_then HB.out hb)
  have HZ2 := Lib.hid hZ
  have HCX := Lib.hid hb
  clear HX HZ HB hX hZ hb
  go_wp2_with fail
  have R := (((HZ2.out.set 0 (.int .u32 xv)).set 1 (.int .u32 xr)).set 2 (.int .u32 xw)).set 3 (.int .u32 xc)
  have e0 := R.cell (i := 0) rfl
  have e1 := R.cell (i := 1) rfl
  have e2 := R.cell (i := 2) rfl
  have e3 := R.cell (i := 3) rfl
  refine bodyPost_ret (v := .tuple #[.agg #[.int .u32 xv, .int .u32 xr, .int .u32 xw, .int .u32 xc], .int .i64 12]) (by simp [results, Try.results46, go_sem, e0, e1, e2, e3]) rfl ⟨rfl, ?_⟩
  have HB' := HB2.out
  repeat (first | exact HB' | refine below_set ?_ (Nat.le_succ _) _ | refine below_set ?_ (by simp) _)
set_option maxHeartbeats 8000000 in
set_option maxRecDepth 100000 in
theorem clo_sto (xv xr xw xc v : Int) (bx : Nat) (w : World) (h : (bits .or .u32 xw xc == 0) = false) (hv : w.cell? ⟨bx, 0, none⟩ = some (.int .u32 v)) :
    Calls Try.prog 46 #[.agg #[.int .u32 xv, .int .u32 xr, .int .u32 xw, .int .u32 xc], .pointer (some ⟨bx, 0, none⟩)] w fun e w' => e = .returned (.tuple #[.agg #[.int .u32 (storeI xv xw xc v), .int .u32 xr, .int .u32 xw, .int .u32 xc], .int .i64 0]) ∧ Below w.heap.size w w' := by
  have HV := Lib.hid hv
  have hbx := World.block_lt_of_cell? w _ hv
  clear hv
  obtain ⟨s, hs⟩ : ∃ s, storeI xv xw xc v = s := ⟨_, rfl⟩
  rw [hs]
  go_enter Try.func46, Try.ntmps46
  go_upto_region 1 with fail
  refine wp_name (Pr := fun W => RowAt W w.heap.size #[.int .u32 xv, .int .u32 xr, .int .u32 xw, .int .u32 xc] 28 ∧ RowAt W (w.heap.size + 1) #[.int .u32 0, .int .u32 0, .int .u32 0, .int .u32 0] 28 ∧ Below w.heap.size w W) ⟨(RowAt.new w _ _).alloc _, by have h := RowAt.new (w.alloc (.cells #[.int .u32 xv, .int .u32 xr, .int .u32 xw, .int .u32 xc] 28 )) #[.int .u32 0, .int .u32 0, .int .u32 0, .int .u32 0] 28 ; simpa using h, below_new (below_new (Below.refl _ _) _) _⟩ ?_
  rintro W ⟨hX, hZ, hB⟩
  have HX := Lib.hid hX
  have HZ := Lib.hid hZ
  have HB := Lib.hid hB
  have x0 := hX.cell (i := 0) rfl
  have x1 := hX.cell (i := 1) rfl
  have x2 := hX.cell (i := 2) rfl
  have x3 := hX.cell (i := 3) rfl
  clear hX hZ hB
  go_upto_region 3 with (go_at_call 47; refine (only_any _ _ _ _ _).mono ?_; rintro e w1 ⟨rfl, hb1⟩; rw [h])
  refine wp_name (Pr := fun W2 => Below W.heap.size W W2) hb1 ?_
  clear hb1 x0 x1 x2 x3
  rintro W2 hb
  have hX := RowAt.ext HX.out hb
  have hZ := RowAt.ext HZ.out hb
  have x0 := hX.cell (i := 0) rfl
  have x1 := hX.cell (i := 1) rfl
  have x2 := hX.cell (i := 2) rfl
  have x3 := hX.cell (i := 3) rfl
  have z0 := hZ.cell (i := 0) rfl
  have z1 := hZ.cell (i := 1) rfl
  have z2 := hZ.cell (i := 2) rfl
  have z3 := hZ.cell (i := 3) rfl
  have f0 := hZ.frozen 0
  have f1 := hZ.frozen 1
  have f2 := hZ.frozen 2
  have f3 := hZ.frozen 3
  have HB2 := Lib.hid (below_then HB.out hb)
  have HZ2 := Lib.hid hZ
  have HCX := Lib.hid hb
  clear HX HZ HB hX hZ hb
  have cv : W2.cell? ⟨bx, 0, none⟩ = some (.int .u32 v) := (HB2.out.cell hbx).trans HV.out
  have HX2 := Lib.hid hbx
  clear hbx
  go_wp2_with (go_at_call 48; refine (store_any _ _ _ _ _ _).mono ?_; rintro e w3 ⟨rfl, hb3⟩; rw [hs]; have hZ := RowAt.ext HZ2.out hb3; clear z0 z1 z2 z3 f0 f1 f2 f3; have z0 := hZ.cell (i := 0) rfl; have z1 := hZ.cell (i := 1) rfl; have z2 := hZ.cell (i := 2) rfl; have z3 := hZ.cell (i := 3) rfl; have f0 := hZ.frozen 0; have f1 := hZ.frozen 1; have f2 := hZ.frozen 2; have f3 := hZ.frozen 3; have HB3 := Lib.hid (below_then HB2.out hb3); have HZ3 := Lib.hid hZ; clear hZ hb3)
  have R := (((HZ3.out.set 0 (.int .u32 s)).set 1 (.int .u32 xr)).set 2 (.int .u32 xw)).set 3 (.int .u32 xc)
  have e0 := R.cell (i := 0) rfl
  have e1 := R.cell (i := 1) rfl
  have e2 := R.cell (i := 2) rfl
  have e3 := R.cell (i := 3) rfl
  refine bodyPost_ret (v := .tuple #[.agg #[.int .u32 s, .int .u32 xr, .int .u32 xw, .int .u32 xc], .int .i64 0]) (by simp [results, Try.results46, go_sem, e0, e1, e2, e3]) rfl ⟨rfl, ?_⟩
  have HB' := HB3.out
  repeat (first | exact HB' | refine below_set ?_ (Nat.le_succ _) _ | refine below_set ?_ (by simp) _)
set_option maxHeartbeats 8000000 in
set_option maxRecDepth 100000 in
theorem turn_no (f fm : Nat) (l : Fm) (off : Int) (fv : Value) (w : World) (hA : FiAt w f fm l) (o0 : 0 ≤ off) (o1 : off ≤ 4294967295) (h : Hid (¬ findE l off = 0)) :
    Calls Try.prog 45 #[.pointer (some ⟨f, 0, none⟩), .int .u32 off, fv] w fun e w' => e = .returned (.int .i64 (findE l off)) ∧ Below w.heap.size w w' := by
  obtain ⟨F, hF⟩ : ∃ F, findV l off = F := ⟨_, rfl⟩
  obtain ⟨E, hE⟩ : ∃ E, findE l off = E := ⟨_, rfl⟩
  have hE0 : (E == 0) = false := by have := h.out; rw [hE] at this; simpa using this
  obtain ⟨a, b, c, d⟩ := F
  have HA := Lib.hid hA
  rw [hE]
  clear hA
  go_enter Try.func45, Try.ntmps45
  go_wp2_with (go_at_call 41; refine (find_any f fm l off _ HA.out o0 o1).mono ?_; rintro e w1 ⟨a', b', c', d', rfl, hv', hb1⟩; rw [hF] at hv'; cases hv'; rw [hE])
  go_ret
  refine ⟨rfl, ?_⟩
  repeat (first | exact hb1 | refine below_new ?_ _ | refine below_set ?_ (by simp) _)
set_option maxHeartbeats 8000000 in
set_option maxRecDepth 100000 in
theorem turn_only (f fm : Nat) (l : Fm) (off v : Int) (bx : Nat) (w : World) (hA : FiAt w f fm l) (o0 : 0 ≤ off) (o1 : off ≤ 4294967295) (hv : w.cell? ⟨bx, 0, none⟩ = some (.int .u32 v)) (h : findE l off = 0) (ho : onlyB (findV l off) = true) :
    Calls Try.prog 45 #[.pointer (some ⟨f, 0, none⟩), .int .u32 off, .func (.func 46) #[] #[.pointer (some ⟨bx, 0, none⟩)]] w fun e w' => e = .returned (.int .i64 12) ∧ Below w.heap.size w w' := by
  obtain ⟨hs1, hs2⟩ := some_of h
  obtain ⟨F, hF⟩ : ∃ F, findV l off = F := ⟨_, rfl⟩
  rw [hF] at hs2 ho
  obtain ⟨a, b, c, d⟩ := F
  have hE : findE l off = 0 := h
  have HA := Lib.hid hA
  have HV := Lib.hid hv
  have hbx := World.block_lt_of_cell? w _ hv
  have ho' : (bits .or .u32 c d == 0) = true := ho
  clear hA hv ho
  go_enter Try.func45, Try.ntmps45
  go_upto_region 2 with (go_at_call 41; refine (find_any f fm l off _ HA.out o0 o1).mono ?_; rintro e w1 ⟨a', b', c', d', rfl, hv', hb1⟩; rw [hF] at hv'; cases hv'; rw [hE])
  refine wp_name (Pr := fun W => FiAt W f fm l ∧ RowAt W w1.heap.size #[.int .u32 a, .int .u32 b, .int .u32 c, .int .u32 d] 28 ∧ W.cell? ⟨bx, 0, none⟩ = some (.int .u32 v) ∧ Below w.heap.size w W) ⟨(HA.out.ext hb1).ext (below_new (Below.refl _ _) _), RowAt.new w1 _ _, (hb1.cell hbx).trans HV.out |> fun q => ((below_new (Below.refl w1.heap.size w1) _).cell (World.block_lt_of_cell? w1 _ q)).trans q, below_new hb1 _⟩ ?_
  have hgx : w.heap.size ≤ w1.heap.size := hb1.size
  have hfl : f < w1.heap.size ∧ fm < w1.heap.size := by have := HA.out.lt; omega
  clear HA HV hbx hb1
  rintro W ⟨hA, hX, hv, hB⟩
  have HA := Lib.hid hA
  have HX := Lib.hid hX
  have HV := Lib.hid hv
  have HB := Lib.hid hB
  have hbx := World.block_lt_of_cell? W _ hv
  have x0 := hX.cell (i := 0) rfl
  have x1 := hX.cell (i := 1) rfl
  have x2 := hX.cell (i := 2) rfl
  have x3 := hX.cell (i := 3) rfl
  clear hA hX hv hB
  go_wp2_with (go_at_call 46; refine (clo_only a b c d bx _ ho').mono ?_; rintro e w2 ⟨rfl, hb2⟩; have hX := RowAt.ext HX.out hb2; clear x0 x1 x2 x3; have z0 := hX.cell (i := 0) rfl; have z1 := hX.cell (i := 1) rfl; have z2 := hX.cell (i := 2) rfl; have z3 := hX.cell (i := 3) rfl; have f0 := hX.frozen 0; have f1 := hX.frozen 1; have f2 := hX.frozen 2; have f3 := hX.frozen 3; have HX2 := Lib.hid hX; have HB2 := Lib.hid (below_then HB.out hb2); have HA2 := Lib.hid (HA.out.ext hb2); clear hX hb2)
  go_ret
  refine ⟨rfl, ?_⟩
  have HB' := HB2.out
  repeat (first | exact HB' | refine below_set ?_ hgx _)
set_option maxHeartbeats 8000000 in
set_option maxRecDepth 100000 in
theorem turn_sto (f fm : Nat) (l : Fm) (off v : Int) (bx : Nat) (w : World) (hA : FiAt w f fm l) (o0 : 0 ≤ off) (o1 : off ≤ 4294967295) (hv : w.cell? ⟨bx, 0, none⟩ = some (.int .u32 v)) (h : findE l off = 0) (ho : onlyB (findV l off) = false) :
    Calls Try.prog 45 #[.pointer (some ⟨f, 0, none⟩), .int .u32 off, .func (.func 46) #[] #[.pointer (some ⟨bx, 0, none⟩)]] w fun e w' => e = .returned (.int .i64 0) ∧ FiAt w' f fm (l.put off (stoV (findV l off) v)) ∧ Only (· = fm) w w' := by
  obtain ⟨s, hs⟩ : ∃ s, storeI (findV l off).v (findV l off).wr (findV l off).c v = s := ⟨_, rfl⟩
  have hok : (stoV (findV l off) v).ok := by
    obtain ⟨M, c, q⟩ := hA
    exact stoV_ok (q.rg off _ (some_of h).2) v
  have hsv : stoV (findV l off) v = ⟨s, (findV l off).r, (findV l off).wr, (findV l off).c⟩ := by rw [← hs]; rfl
  rw [hsv] at hok ⊢
  clear hsv
  obtain ⟨hs1, hs2⟩ := some_of h
  obtain ⟨F, hF⟩ : ∃ F, findV l off = F := ⟨_, rfl⟩
  rw [hF] at hs2 ho hs hok ⊢
  obtain ⟨a, b, c, d⟩ := F
  dsimp only at hs hok ⊢
  have HOK := Lib.hid hok
  clear hok
  have hE : findE l off = 0 := h
  have HA := Lib.hid hA
  have HV := Lib.hid hv
  have hbx := World.block_lt_of_cell? w _ hv
  have ho' : (bits .or .u32 c d == 0) = false := ho
  clear hA hv ho
  go_enter Try.func45, Try.ntmps45
  go_upto_region 2 with (go_at_call 41; refine (find_any f fm l off _ HA.out o0 o1).mono ?_; rintro e w1 ⟨a', b', c', d', rfl, hv', hb1⟩; rw [hF] at hv'; cases hv'; rw [hE])
  refine wp_name (Pr := fun W => FiAt W f fm l ∧ RowAt W w1.heap.size #[.int .u32 a, .int .u32 b, .int .u32 c, .int .u32 d] 28 ∧ W.cell? ⟨bx, 0, none⟩ = some (.int .u32 v) ∧ Below w.heap.size w W) ⟨(HA.out.ext hb1).ext (below_new (Below.refl _ _) _), RowAt.new w1 _ _, (hb1.cell hbx).trans HV.out |> fun q => ((below_new (Below.refl w1.heap.size w1) _).cell (World.block_lt_of_cell? w1 _ q)).trans q, below_new hb1 _⟩ ?_
  have hgx : w.heap.size ≤ w1.heap.size := hb1.size
  have hfl : f < w1.heap.size ∧ fm < w1.heap.size := by have := HA.out.lt; omega
  clear HA HV hbx hb1
  rintro W ⟨hA, hX, hv, hB⟩
  have HA := Lib.hid hA
  have HX := Lib.hid hX
  have HV := Lib.hid hv
  have HB := Lib.hid hB
  have hbx := World.block_lt_of_cell? W _ hv
  have x0 := hX.cell (i := 0) rfl
  have x1 := hX.cell (i := 1) rfl
  have x2 := hX.cell (i := 2) rfl
  have x3 := hX.cell (i := 3) rfl
  clear hA hX hv hB
  go_upto_region 6 with (go_at_call 46; refine (clo_sto a b c d v bx _ ho' HV.out).mono ?_; rintro e w2 ⟨rfl, hb2⟩; have hX := RowAt.ext HX.out hb2; clear x0 x1 x2 x3; have z0 := hX.cell (i := 0) rfl; have z1 := hX.cell (i := 1) rfl; have z2 := hX.cell (i := 2) rfl; have z3 := hX.cell (i := 3) rfl; have f0 := hX.frozen 0; have f1 := hX.frozen 1; have f2 := hX.frozen 2; have f3 := hX.frozen 3; have HX2 := Lib.hid hX; have HB2 := Lib.hid (below_then HB.out hb2); have HA2 := Lib.hid (HA.out.ext hb2); clear hX hb2)
  refine wp_name (Pr := fun W3 => FiAt W3 f fm l ∧ RowAt W3 w1.heap.size #[.int .u32 s, .int .u32 b, .int .u32 c, .int .u32 d] 28 ∧ Below w.heap.size w W3) ⟨HA2.out.only (only_but (((((But.refl w1.heap.size w2).set 0 _).set 1 _).set 2 _).set 3 _) (S := (· = w1.heap.size)) rfl) (by omega) (by omega), (((HX2.out.set 0 _).set 1 _).set 2 _).set 3 _, by have HB' := HB2.out; repeat (first | exact HB' | refine below_set ?_ hgx _)⟩ ?_
  clear HA2 HX2 HB2 z0 z1 z2 z3 f0 f1 f2 f3 HA HX HV HB hbx
  rintro W3 ⟨⟨M, c1, q⟩, hX, hB⟩
  have HQ := Lib.hid q
  have HB := Lib.hid hB
  obtain ⟨hkR, _⟩ := Ext.cells q.row
  obtain ⟨hkE, _⟩ := Ext.cells hX
  have s0 : ∀ y : Ext W3.heap.size W3, y.world.cell? ⟨f, 0, none⟩ = some (.map (some fm)) := fun y => hkR y 0
  have se0 : ∀ y : Ext W3.heap.size W3, y.world.cell? ⟨w1.heap.size, 0, none⟩ = some (.int .u32 s) := fun y => hkE y 0
  have se1 : ∀ y : Ext W3.heap.size W3, y.world.cell? ⟨w1.heap.size, 1, none⟩ = some (.int .u32 b) := fun y => hkE y 1
  have se2 : ∀ y : Ext W3.heap.size W3, y.world.cell? ⟨w1.heap.size, 2, none⟩ = some (.int .u32 c) := fun y => hkE y 2
  have se3 : ∀ y : Ext W3.heap.size W3, y.world.cell? ⟨w1.heap.size, 3, none⟩ = some (.int .u32 d) := fun y => hkE y 3
  clear q hX hB hkR hkE
  refine wp_start (w := W3) ?_
  intro x0
  refine wp_region_ext_tail _ 7 (by kernel_rfl) (by kernel_rfl) (by kernel_rfl) ?_
  simp only [List.take_succ_cons, List.take_zero, List.drop_succ_cons, List.drop_zero]
  repeat (go_big_quiet_step (fail))
  refine wpQuiet_nil ?_
  rintro _ ⟨y, rfl⟩
  have HM1 := Lib.hid (HQ.out.ext y.ok).m
  go_wp2_with (at_mapUpdate; refine wpList_update_at rfl (.tmp 29) (.tmp 31) (.tmp 32) rfl keyEnc_of Try.underlying85 HM1.out rfl off rfl (gv ⟨s, b, c, d⟩) rfl ?_)
  go_ret
  exact ⟨rfl, ⟨_, _, (HQ.out.ext y.ok).put off ⟨s, b, c, d⟩ HOK.out⟩, (only_of (below_then HB.out y.ok) (· = fm)).setB rfl _⟩
set_option maxHeartbeats 8000000 in
set_option maxRecDepth 100000 in
theorem fstore_no (f fm : Nat) (l : Fm) (off v : Int) (w : World) (hA : FiAt w f fm l) (o0 : 0 ≤ off) (o1 : off ≤ 4294967295) (h : Hid (¬ findE l off = 0)) :
    Calls Try.prog 16 #[.pointer (some ⟨f, 0, none⟩), .int .u32 off, .int .u32 v] w fun e w' => e = .returned (.int .i64 (findE l off)) ∧ Below w.heap.size w w' := by
  have HA := Lib.hid hA
  clear hA
  go_enter Try.func16, Try.ntmps16
  go_wp2_with (go_at_call 45; refine (turn_no f fm l off _ _ (HA.out.ext (below_new (Below.refl _ _) _)) o0 o1 h).mono ?_; rintro e w1 ⟨rfl, hb1⟩)
  go_ret
  refine ⟨rfl, ?_⟩
  repeat (first | exact Below.refl _ _ | refine below_then ?_ hb1 | refine below_new ?_ _)
set_option maxHeartbeats 8000000 in
set_option maxRecDepth 100000 in
theorem fstore_only (f fm : Nat) (l : Fm) (off v : Int) (w : World) (hA : FiAt w f fm l) (o0 : 0 ≤ off) (o1 : off ≤ 4294967295) (h : findE l off = 0) (ho : onlyB (findV l off) = true) :
    Calls Try.prog 16 #[.pointer (some ⟨f, 0, none⟩), .int .u32 off, .int .u32 v] w fun e w' => e = .returned (.int .i64 12) ∧ Below w.heap.size w w' := by
  have HA := Lib.hid hA
  clear hA
  go_enter Try.func16, Try.ntmps16
  go_wp2_with (go_at_call 45; refine (turn_only f fm l off v w.heap.size _ (HA.out.ext (below_new (Below.refl _ _) _)) o0 o1 ((RowAt.new w #[.int .u32 v] 26).cell (i := 0) rfl) h ho).mono ?_; rintro e w1 ⟨rfl, hb1⟩)
  go_ret
  refine ⟨rfl, ?_⟩
  repeat (first | exact Below.refl _ _ | refine below_then ?_ hb1 | refine below_new ?_ _)
set_option maxHeartbeats 8000000 in
set_option maxRecDepth 100000 in
theorem fstore_put (f fm : Nat) (l : Fm) (off v : Int) (w : World) (hA : FiAt w f fm l) (o0 : 0 ≤ off) (o1 : off ≤ 4294967295) (h : findE l off = 0) (ho : onlyB (findV l off) = false) :
    Calls Try.prog 16 #[.pointer (some ⟨f, 0, none⟩), .int .u32 off, .int .u32 v] w fun e w' => e = .returned (.int .i64 0) ∧ FiAt w' f fm (l.put off (stoV (findV l off) v)) ∧ Only (· = fm) w w' := by
  have HA := Lib.hid hA
  clear hA
  go_enter Try.func16, Try.ntmps16
  go_wp2_with (go_at_call 45; refine (turn_sto f fm l off v w.heap.size _ (HA.out.ext (below_new (Below.refl _ _) _)) o0 o1 ((RowAt.new w #[.int .u32 v] 26).cell (i := 0) rfl) h ho).mono ?_; rintro e w1 ⟨rfl, hA1, hO1⟩)
  go_ret
  exact ⟨rfl, hA1, (only_of (below_new (Below.refl _ _) _) _).trans hO1⟩
set_option maxHeartbeats 8000000 in
set_option maxRecDepth 100000 in
theorem fstore_any (f fm : Nat) (l : Fm) (off v : Int) (w : World) (hA : FiAt w f fm l) (o0 : 0 ≤ off) (o1 : off ≤ 4294967295) :
    Calls Try.prog 16 #[.pointer (some ⟨f, 0, none⟩), .int .u32 off, .int .u32 v] w fun e w' => e = .returned (.int .i64 (stoE l off)) ∧ FiAt w' f fm (stoL l off v) ∧ Only (· = fm) w w' := by
  by_cases h : findE l off = 0
  · cases ho : onlyB (findV l off) with
    | true =>
      have hs : stoE l off = 12 := by unfold stoE; rw [if_pos h, if_pos ho]
      refine (fstore_only f fm l off v w hA o0 o1 h ho).mono ?_
      rintro e w' ⟨rfl, hb⟩
      refine ⟨by rw [hs], ?_, only_of hb _⟩
      unfold stoL
      rw [if_neg (by rw [hs]; decide)]
      exact hA.ext hb
    | false =>
      have hs : stoE l off = 0 := by unfold stoE; rw [if_pos h, if_neg (by rw [ho]; decide)]
      refine (fstore_put f fm l off v w hA o0 o1 h ho).mono ?_
      rintro e w' ⟨rfl, hA', hO⟩
      refine ⟨by rw [hs], ?_, hO⟩
      unfold stoL
      rw [if_pos hs]
      exact hA'
  · have hs : stoE l off = findE l off := by unfold stoE; rw [if_neg h]
    refine (fstore_no f fm l off v w hA o0 o1 (Lib.hid h)).mono ?_
    rintro e w' ⟨rfl, hb⟩
    refine ⟨by rw [hs], ?_, only_of hb _⟩
    unfold stoL
    rw [if_neg (by rw [hs]; exact h)]
    exact hA.ext hb
end Go.Proofs.Ytgkklgebgabncaa
