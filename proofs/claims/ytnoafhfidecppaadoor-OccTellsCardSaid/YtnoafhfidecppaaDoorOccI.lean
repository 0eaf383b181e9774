/- A slot taken, or not: any map is the document's. -/
import Derived.Test.YtnoafhfidecppaaDoorOccH
import Derived.Test.YtnoafhfidecppaaDoorFree
import Derived.Test.YtnoafhfidecppaaDoorBut
import Derived.Test.YtnoafhfidecppaaDoorPart
import Derived.Deep.Cut
namespace Go.Proofs.YtnoafhfidecppaaDoor
open Go.RowKit
set_option linter.unusedVariables false
set_option linter.unusedSimpArgs false

theorem wp_name {P : Program} {c : Code} {Q : Exit → Act → World → Prop} {a : Act} {W : World} {Pr : World → Prop} (h : Pr W) (k : ∀ W', Pr W' → c.wp P Q a W') : c.wp P Q a W := k W h
theorem rows_at {W : World} {b : Nat} {l : List Value} {t : TypeId} (h : RowAt W b l.toArray t) : ∀ w', (∃ y : Ext W.heap.size W, w' = y.world) → ∀ j v, l[j]? = some v → w'.cell? ⟨b, 0 + j, none⟩ = some v := by
  rintro _ ⟨y, rfl⟩ j v hv
  rw [Nat.zero_add]
  exact (RowAt.ext h y.ok).cell (by simpa using hv)
theorem wpQuiet_eql_agg {P : Program} {ops : Array Oper} {C : World → Prop} {Q : Act → Prop} {a : Act} {o : Oper} {rest : List Oper} (hw : Region.wanted o (yielded ops a.tmps) = true) (t ty : TypeId) (x y : Operand) (ho : o.op = .binOp .eql t x y ty)
    (u v : Array Value) (hx : a.eval x = .agg u) (hy : a.eval y = .agg v) (b : Bool) (hg : P.eqGuardType P.depth t = false) (h : ∀ w, (binOp .eql t (.agg u) (.agg v)).run P w = .ok (.bool b) w) (hk : wpQuiet P ops C Q rest (a.put o.dst (.bool b))) : wpQuiet P ops C Q (o :: rest) a :=
  wpQuiet_run hw _ (fun w _ => by
    unfold execOp
    simp only [ho, hx, hy, Sem.run_bind, run_eqGuard_agg _ _ _ _ _ _ _ hg, Result.andThen_ok, h, Sem.run_pure]) hk
theorem info40 : (Tryd.prog.info? 40).map (·.size) = some 8 := by kernel_rfl
theorem hiM (m : Map8) : (Tryd.prog.info? 40).map (·.size) = some m.arr.size := by rw [m.size]; exact info40
theorem hiM' (m : Map8) : (Tryd.prog.info? 40).map (·.size) = some (m.ws.map (Value.int .u64)).length := by rw [List.length_map, m.len]; exact info40
theorem hiT (f : Nat → Bool) : (Tryd.prog.info? 46).map (·.size) = some (bools (tl f)).size := by rw [bools_size]; simp only [tl, List.length_map, List.length_range]; exact info46
theorem hiT' (f : Nat → Bool) : (Tryd.prog.info? 46).map (·.size) = some ((tl f).map Value.bool).length := by simp only [tl, List.length_map, List.length_range]; exact info46
theorem sizeT (f g : Nat → Bool) : (bools (tl f)).size = (bools (tl g)).size := by rw [bools_size, bools_size]; simp [tl]
theorem m_one (m : Map8) : m.arr.all (·.oneCell') = true := ints_one .u64 m.ws
set_option maxHeartbeats 8000000 in
set_option maxRecDepth 100000 in
theorem OccTurns_m (m : Map8) (l s from_ : Int) (w : World) (hT : Tab w) (f0 : -9223372036854775808 ≤ from_) (f1 : from_ ≤ 9223372036854775807) :
    Calls Tryd.prog 8 #[m.val, .int .i64 l, .int .i64 s, .int .i64 from_] w fun e w' => e = .returned (.bool true) ∧ Below w.heap.size w w' := by
  unfold Map8.val
  go_enter Tryd.func8, Tryd.ntmps8
  go_upto_region 1 with fail
  refine wp_name (Pr := fun W => RowAt W w.heap.size m.arr 40 ∧ Tab W ∧ Below w.heap.size w W) ⟨RowAt.new w _ _, hT.ext (below_new (Below.refl _ _) _), below_new (Below.refl _ _) _⟩ ?_
  rintro W1 ⟨hM, hT1, hB1⟩
  have HM := Lib.hid hM
  have HT1 := Lib.hid hT1
  have HB1 := Lib.hid hB1
  clear hM hT1 hB1 hT
  go_upto_region 2 with (first | (refine wpList_load_row rfl 40 (.tmp 4) rfl w.heap.size rfl 40 (m.arr) (0, 0) _ HM.out Tryd.underlying40 rfl (hiM m) ?_) | (refine wpList_store_row rfl 46 (.tmp 9) (.tmp 14) rfl w2.heap.size (bools (tl (tOf m))) rfl rfl 46 _ (RowAt.new w2 _ _) (hiT _) (by rw [zeros46]; exact sizeT _ _) (bools_one _) ?_) | (go_at_call 41; refine (of_any m _).mono ?_; rintro e w2 ⟨rfl, hb2⟩; have hM2 := RowAt.ext HM.out hb2; have hT2 := HT1.out.ext hb2; have hB2 := below_then HB1.out hb2; have HM2 := Lib.hid hM2; have HT2 := Lib.hid hT2; have HB2 := Lib.hid hB2; clear hM2 hT2 hB2 hb2))
  refine wp_name (Pr := fun W => RowAt W w.heap.size m.arr 40 ∧ RowAt W w2.heap.size (bools (tl (tOf m))) 46 ∧ Tab W ∧ Below w.heap.size w W) ⟨RowAt.setRow_other (HM2.out.alloc _) (by have := HM2.out.lt; omega) _, RowAt.setRow (RowAt.new w2 _ _) _, HT2.out.ext (below_setRow (below_new (Below.refl _ _) _) (Nat.le_refl _) _), below_setRow (below_new HB2.out _) (by have := HM2.out.lt; omega) _⟩ ?_
  obtain ⟨bt, hbt⟩ : ∃ bt, w2.heap.size = bt := ⟨_, rfl⟩
  have hne : w.heap.size ≠ bt := by have := HM2.out.lt; omega
  rw [hbt]
  clear HM HT1 HB1 HM2 HT2 HB2 hbt
  rintro W ⟨hM, hR, hT, hB⟩
  have HM := Lib.hid hM
  have HR := Lib.hid hR
  have HT := Lib.hid hT
  have HB := Lib.hid hB
  clear hM hR hT hB
  refine wp_start (w := W) ?_
  intro x
  refine wp_region_free2 x 10 8 9 (fun g => .pointer (some ⟨g, 0, none⟩)) (.cells #[.int .u64 0, .int .u64 0, .int .u64 0, .int .u64 0, .int .u64 0, .int .u64 0, .int .u64 0, .int .u64 0] 40 (0, 0)) (fun g => .pointer (some ⟨g, 0, none⟩)) (.cells #[.int .u64 0, .int .u64 0, .int .u64 0, .int .u64 0, .int .u64 0, .int .u64 0, .int .u64 0, .int .u64 0] 40 (0, 0)) (by kernel_rfl) (by kernel_rfl) (by decide) (by decide) (by decide) (fun g g' => by kernel_rfl) ⟨_, rfl, rfl, fun a w => by kernel_rfl⟩ ⟨_, rfl, rfl, fun a w => by kernel_rfl⟩ ?_
  intro ga gd w1 hw1
  have HG := Lib.hid (rows_at (W := w1) (l := m.ws.map (Value.int .u64)) (HM.out.ext hw1))
  simp only [List.take_succ_cons, List.take_zero, List.drop_succ_cons, List.drop_zero, List.modify_succ_cons, List.modify_zero_cons, made]
  repeat (first | (refine wpQuiet_load_part rfl 40 (.tmp 4) rfl w.heap.size 0 rfl (m.ws.map (Value.int .u64)) _ (by intro w' hw'; exact HG.out w' hw') Tryd.underlying40 rfl (hiM' m) ?_; simp only [Act.put, List.setIfInBounds_toArray, List.set_cons_succ, List.set_cons_zero]) | go_big_quiet_step (first | (go_at_call 42; exact Ext.call (set_any m l s _)) | (go_at_call 43; exact Ext.call (drop_any m l s _))))
  refine wpQuiet_nil ?_
  intro W4 hB4 hga hA0 hgd hD0 hgad
  have rA : RowAt W4 ga (ints .u64 (List.replicate 8 0)) 40 := hA0
  have rD : RowAt W4 gd (ints .u64 (List.replicate 8 0)) 40 := hD0
  go_upto_region 3 with (first | (refine wpList_store_row rfl 40 (.tmp 10) (.tmp 18) rfl ga ((setM m l s).arr) rfl rfl 40 _ rA (hiM _) (by rw [ints_size, Map8.size]; rfl) (m_one _) ?_) | (refine wpList_store_row rfl 40 (.tmp 11) (.tmp 22) rfl gd ((dropM m l s).arr) rfl rfl 40 _ (RowAt.setRow_other rD (Ne.symm hgad) _) (hiM _) (by rw [ints_size, Map8.size]; rfl) (m_one _) ?_))
  refine wp_name (Pr := fun W' => RowAt W' ga (setM m l s).arr 40 ∧ RowAt W' gd (dropM m l s).arr 40 ∧ RowAt W' w.heap.size m.arr 40 ∧ RowAt W' bt (bools (tl (tOf m))) 46 ∧ Tab W' ∧ Below w.heap.size w W')
    ⟨RowAt.setRow_other (RowAt.setRow rA _) hgad _, RowAt.setRow (RowAt.setRow_other rD (Ne.symm hgad) _) _, RowAt.setRow_other (RowAt.setRow_other (HM.out.ext hB4) (by have := HM.out.lt; omega) _) (by have := HM.out.lt; omega) _,
      RowAt.setRow_other (RowAt.setRow_other (HR.out.ext hB4) (by have := HR.out.lt; omega) _) (by have := HR.out.lt; omega) _, HT.out.ext (below_setRow (below_setRow hB4 hga _) hgd _), below_setRow (below_setRow (below_then HB.out hB4) (by have := HB.out.size; omega) _) (by have := HB.out.size; omega) _⟩ ?_
  clear rA rD HM HR HT HB HG hw1 hB4 hA0 hD0 x
  rintro W5 ⟨hA, hD, hM, hR, hT, hB⟩
  have HA := Lib.hid hA
  have HD := Lib.hid hD
  have HM := Lib.hid hM
  have HR := Lib.hid hR
  have HT := Lib.hid hT
  have HB := Lib.hid hB
  clear hA hD hM hR hT hB
  have hgaw : ga < W5.heap.size := HA.out.lt
  have hgdw : gd < W5.heap.size := HD.out.lt
  have cHas := fun w => has_any m l s w
  have cNext := fun (y : Ext W5.heap.size W5) => next_any m l from_ y.world (HT.out.ext y.ok)
  have cRNext := fun w => rnext_any (tOf m) l from_ w f0 f1
  rw [next_turn] at cRNext
  have eA := eq_maps (setM m l s) (wl (putF (tOf m) l s true)) (by have := put_words m l s true; simpa using this)
  have eD := eq_maps (dropM m l s) (wl (putF (tOf m) l s false)) (by have := put_words m l s false; simpa using this)
  have HEA := Lib.hid eA
  have HED := Lib.hid eD
  have HGM := Lib.hid (rows_at (W := W5) (l := m.ws.map (Value.int .u64)) HM.out)
  have HGA := Lib.hid (rows_at (W := W5) (l := (setM m l s).ws.map (Value.int .u64)) HA.out)
  have HGD := Lib.hid (rows_at (W := W5) (l := (dropM m l s).ws.map (Value.int .u64)) HD.out)
  have HGR := Lib.hid (rows_at (W := W5) (l := (tl (tOf m)).map Value.bool) HR.out)
  clear eA eD
  by_cases hk : okS l s
  · have dk : decide (okS l s) = true := decide_eq_true hk
    obtain ⟨hkR, _⟩ := Ext.cells HR.out
    have hcell : ∀ x : Ext W5.heap.size W5, x.world.cell? ⟨bt, l.toNat * 64 + s.toNat, none⟩ = some (.bool (tOf m (l.toNat * 64 + s.toNat))) := fun x => (hkR x _).trans (bools_get (range_get 512 (tOf m) (l.toNat * 64 + s.toNat) (by obtain ⟨h0, h1, h2, h3⟩ := hk; omega)))
    rw [has_turn m l s hk] at hcell
    obtain ⟨H, hH⟩ : ∃ H, hasI m l s = H := ⟨_, rfl⟩
    rw [hH] at hcell cHas
    obtain ⟨N, hN⟩ : ∃ N, nextI m l from_ = N := ⟨_, rfl⟩
    rw [hN] at cNext cRNext
    obtain ⟨h0, h1, h2, h3⟩ := hk
    obtain ⟨Ln, rfl⟩ := Int.eq_ofNat_of_zero_le h0
    obtain ⟨Sn, rfl⟩ := Int.eq_ofNat_of_zero_le h2
    rw [Int.toNat_natCast, Int.toNat_natCast] at hcell
    have eH : (H == H) = true := beq_self_eq_true _
    have eN : (N == N) = true := beq_self_eq_true _
    have eN' : decide (N = N) = true := decide_eq_true rfl
    clear hH hN hkR
    go_upto_region 4 with (go_at_call 44; refine (rin_any _ _ _).mono ?_; rintro e wr ⟨rfl, hbr⟩; obtain ⟨y, rfl⟩ := Ext.of hbr; clear hbr)
    go_upto_region 6 with fail
    refine wp_region_ext _ (by kernel_rfl) (by kernel_rfl) ?_
    repeat (first | (refine wpQuiet_load_part rfl 40 (.tmp 10) rfl ga 0 rfl ((setM m _ _).ws.map (Value.int .u64)) _ (by intro w' hw'; exact HGA.out w' hw') Tryd.underlying40 rfl (hiM' (setM m _ _)) ?_; simp only [Act.put, List.setIfInBounds_toArray, List.set_cons_succ, List.set_cons_zero]) | (refine wpQuiet_load_part rfl 40 (.tmp 11) rfl gd 0 rfl ((dropM m _ _).ws.map (Value.int .u64)) _ (by intro w' hw'; exact HGD.out w' hw') Tryd.underlying40 rfl (hiM' (dropM m _ _)) ?_; simp only [Act.put, List.setIfInBounds_toArray, List.set_cons_succ, List.set_cons_zero]) | (refine wpQuiet_load_part rfl 40 (.tmp 4) rfl w.heap.size 0 rfl (m.ws.map (Value.int .u64)) _ (by intro w' hw'; exact HGM.out w' hw') Tryd.underlying40 rfl (hiM' m) ?_; simp only [Act.put, List.setIfInBounds_toArray, List.set_cons_succ, List.set_cons_zero]) | (refine wpQuiet_load_part rfl 46 (.tmp 9) rfl bt 0 rfl ((tl (tOf m)).map Value.bool) _ (by intro w' hw'; exact HGR.out w' hw') Tryd.underlying46 rfl (hiT' (tOf m)) ?_; simp only [Act.put, List.setIfInBounds_toArray, List.set_cons_succ, List.set_cons_zero]) | (refine wpQuiet_eql_agg rfl 40 40 (.tmp 34) (.tmp 39) rfl _ _ rfl rfl true Tryd.eqGuardType40 HEA.out ?_; simp only [Act.put, List.setIfInBounds_toArray, List.set_cons_succ, List.set_cons_zero]) | (refine wpQuiet_eql_agg rfl 40 40 (.tmp 43) (.tmp 48) rfl _ _ rfl rfl true Tryd.eqGuardType40 HED.out ?_; simp only [Act.put, List.setIfInBounds_toArray, List.set_cons_succ, List.set_cons_zero]) | go_big_quiet_step (first | (go_at_call 40; exact Ext.call (known15 _ (HT.out.ext (Ext.ok _)))) | (go_at_call 46; exact Ext.call (put_any _ _ _ _ _)) | (go_at_call 45; exact Ext.call (words_any _ _)) | (go_at_call 39; exact Ext.call (cHas _)) | (go_at_call 38; exact Ext.call (cNext _)) | (go_at_call 47; exact Ext.call (cRNext _))))
    refine wpQuiet_nil ?_
    rintro _ ⟨y, rfl⟩
    go_wp2_with fail
    go_ret
    exact ⟨rfl, below_then HB.out (Ext.ok _)⟩
  · have dk : decide (okS l s) = false := decide_eq_false hk
    have hH : hasI m l s = false := by rw [hasI, dk, Bool.false_and]
    rw [hH] at cHas
    obtain ⟨N, hN⟩ : ∃ N, nextI m l from_ = N := ⟨_, rfl⟩
    rw [hN] at cNext cRNext
    have eH : (false == false) = true := rfl
    have eN : (N == N) = true := beq_self_eq_true _
    have eN' : decide (N = N) = true := decide_eq_true rfl
    clear hH hN hk
    go_upto_region 4 with (go_at_call 44; refine (rin_any _ _ _).mono ?_; rintro e wr ⟨rfl, hbr⟩; obtain ⟨y, rfl⟩ := Ext.of hbr; clear hbr)
    go_upto_region 6 with fail
    refine wp_region_ext _ (by kernel_rfl) (by kernel_rfl) ?_
    repeat (first | (refine wpQuiet_load_part rfl 40 (.tmp 10) rfl ga 0 rfl ((setM m _ _).ws.map (Value.int .u64)) _ (by intro w' hw'; exact HGA.out w' hw') Tryd.underlying40 rfl (hiM' (setM m _ _)) ?_; simp only [Act.put, List.setIfInBounds_toArray, List.set_cons_succ, List.set_cons_zero]) | (refine wpQuiet_load_part rfl 40 (.tmp 11) rfl gd 0 rfl ((dropM m _ _).ws.map (Value.int .u64)) _ (by intro w' hw'; exact HGD.out w' hw') Tryd.underlying40 rfl (hiM' (dropM m _ _)) ?_; simp only [Act.put, List.setIfInBounds_toArray, List.set_cons_succ, List.set_cons_zero]) | (refine wpQuiet_load_part rfl 40 (.tmp 4) rfl w.heap.size 0 rfl (m.ws.map (Value.int .u64)) _ (by intro w' hw'; exact HGM.out w' hw') Tryd.underlying40 rfl (hiM' m) ?_; simp only [Act.put, List.setIfInBounds_toArray, List.set_cons_succ, List.set_cons_zero]) | (refine wpQuiet_load_part rfl 46 (.tmp 9) rfl bt 0 rfl ((tl (tOf m)).map Value.bool) _ (by intro w' hw'; exact HGR.out w' hw') Tryd.underlying46 rfl (hiT' (tOf m)) ?_; simp only [Act.put, List.setIfInBounds_toArray, List.set_cons_succ, List.set_cons_zero]) | (refine wpQuiet_eql_agg rfl 40 40 (.tmp 34) (.tmp 39) rfl _ _ rfl rfl true Tryd.eqGuardType40 HEA.out ?_; simp only [Act.put, List.setIfInBounds_toArray, List.set_cons_succ, List.set_cons_zero]) | (refine wpQuiet_eql_agg rfl 40 40 (.tmp 43) (.tmp 48) rfl _ _ rfl rfl true Tryd.eqGuardType40 HED.out ?_; simp only [Act.put, List.setIfInBounds_toArray, List.set_cons_succ, List.set_cons_zero]) | go_big_quiet_step (first | (go_at_call 40; exact Ext.call (known15 _ (HT.out.ext (Ext.ok _)))) | (go_at_call 46; exact Ext.call (put_any _ _ _ _ _)) | (go_at_call 45; exact Ext.call (words_any _ _)) | (go_at_call 39; exact Ext.call (cHas _)) | (go_at_call 38; exact Ext.call (cNext _)) | (go_at_call 47; exact Ext.call (cRNext _))))
    refine wpQuiet_nil ?_
    rintro _ ⟨y, rfl⟩
    go_wp2_with fail
    go_ret
    exact ⟨rfl, below_then HB.out (Ext.ok _)⟩
theorem OccTurns_walk (cs : Array Value) (l s from_ : Int) (W : World) (hT : Tab W) (f : Fits W [.int .u64, .int .u64, .int .u64, .int .u64, .int .u64, .int .u64, .int .u64, .int .u64] cs.toList) (l0 : -9223372036854775808 ≤ l) (l1 : l ≤ 9223372036854775807) (s0 : -9223372036854775808 ≤ s) (s1 : s ≤ 9223372036854775807) (f0 : -9223372036854775808 ≤ from_) (f1 : from_ ≤ 9223372036854775807) :
    Calls Tryd.prog 8 #[.agg cs, .int .i64 l, .int .i64 s, .int .i64 from_] W fun e w' => e = .returned (.bool true) ∧ Below W.heap.size W w' := by
  obtain ⟨m, rfl⟩ := map8_of_fits f
  exact OccTurns_m m l s from_ W hT f0 f1
end Go.Proofs.YtnoafhfidecppaaDoor
