/- What is told of any map of slots. -/
import Derived.Test.YtnoafhfidecppaaDoorOccL
import Derived.Deep.RegionHeld3
import Derived.Deep.MidRow
namespace Go.Proofs.YtnoafhfidecppaaDoor
open Go.RowKit
set_option linter.unusedVariables false
set_option linter.unusedSimpArgs false

theorem lowest_arr (m : Map8) (w : World) (hT : Tab w) : Calls Tryd.prog 50 #[.agg #[.int .u64 (m.at 0), .int .u64 (m.at 1), .int .u64 (m.at 2), .int .u64 (m.at 3), .int .u64 (m.at 4), .int .u64 (m.at 5), .int .u64 (m.at 6), .int .u64 (m.at 7)]] w fun e w' => e = .returned (.tuple #[.int .i64 (lowI m).1, .int .i64 (lowI m).2]) ∧ Below w.heap.size w w' := by
  have h := lowest_any m w hT
  unfold Map8.val at h
  rwa [m.arr_eq] at h
theorem count_arr (m : Map8) (w : World) (hT : Tab w) : Calls Tryd.prog 51 #[.agg #[.int .u64 (m.at 0), .int .u64 (m.at 1), .int .u64 (m.at 2), .int .u64 (m.at 3), .int .u64 (m.at 4), .int .u64 (m.at 5), .int .u64 (m.at 6), .int .u64 (m.at 7)]] w fun e w' => e = .returned (.int .i64 (allI m).length) ∧ Below w.heap.size w w' := by
  have h := count_any m w hT
  unfold Map8.val at h
  rwa [m.arr_eq] at h
theorem all_arr (m : Map8) (w : World) (hT : Tab w) : Calls Tryd.prog 49 #[.agg #[.int .u64 (m.at 0), .int .u64 (m.at 1), .int .u64 (m.at 2), .int .u64 (m.at 3), .int .u64 (m.at 4), .int .u64 (m.at 5), .int .u64 (m.at 6), .int .u64 (m.at 7)]] w fun e w' => ∃ v, e = .returned v ∧ Sl w' v (allI m).length ((allI m).flatMap pc) (fun g => w.heap.size ≤ g) ∧ Below w.heap.size w w' := by
  have h := all_any m w hT
  unfold Map8.val at h
  rwa [m.arr_eq] at h
theorem flat_pc (l : List (Nat × Nat)) : ∀ i p, l[i]? = some p → (l.flatMap pc)[i * 2]? = some (.int .i64 p.1) ∧ (l.flatMap pc)[i * 2 + 1]? = some (.int .i64 p.2) := by
  induction l with
  | nil => intro i p h; simp at h
  | cons q l ih =>
    intro i p h
    cases i with
    | zero =>
      simp only [List.getElem?_cons_zero, Option.some.injEq] at h
      subst h
      simp [pc]
    | succ i =>
      rw [List.getElem?_cons_succ] at h
      obtain ⟨h1, h2⟩ := ih i p h
      rw [List.flatMap_cons, show (i + 1) * 2 = i * 2 + 2 by omega, show i * 2 + 2 + 1 = i * 2 + 1 + 2 by omega]
      have e : ∀ k, (pc q ++ l.flatMap pc)[k + 2]? = (l.flatMap pc)[k]? := fun k => by simp [pc]
      rw [e, e]
      exact ⟨h1, h2⟩
theorem neq_pair (a b c d : Int) (w : World) (h : [a, b] = [c, d]) : (binOp .neq 61 (.agg #[.int .i64 a, .int .i64 b]) (.agg #[.int .i64 c, .int .i64 d])).run Tryd.prog w = .ok (.bool false) w := by
  obtain ⟨i, hi, hz⟩ := Option.map_eq_some_iff.1 (show (Tryd.prog.info? 3).map (·.size) = some 1 by kernel_rfl)
  have q := run_equalIn_array_int (P := Tryd.prog) w 9998 61 3 2 .i64 .i64 i Tryd.underlying61 Tryd.underlying3 hi hz [a, b] [c, d] rfl rfl
  simp only [List.map_cons, List.map_nil] at q
  rw [h, beq_self_eq_true] at q
  simp only [List.cons.injEq, and_true] at h
  obtain ⟨rfl, rfl⟩ := h
  simp only [binOp]
  simp [Op.equal, Op.maxDepth, q]
theorem k_start {w : World} {K : Act → World → Prop} {a : Act} (h : ∀ x : Ext w.heap.size w, K a x.world) : K a w := h ⟨w, Below.refl _ _⟩
theorem wpQuiet_neq_agg {P : Program} {ops : Array Oper} {C : World → Prop} {Q : Act → Prop} {a : Act} {o : Oper} {rest : List Oper} (hw : Region.wanted o (yielded ops a.tmps) = true) (t ty : TypeId) (x y : Operand) (ho : o.op = .binOp .neq t x y ty)
    (u v : Array Value) (hx : a.eval x = .agg u) (hy : a.eval y = .agg v) (b : Bool) (hg : P.eqGuardType P.depth t = false) (h : ∀ w, (binOp .neq t (.agg u) (.agg v)).run P w = .ok (.bool b) w) (hk : wpQuiet P ops C Q rest (a.put o.dst (.bool b))) : wpQuiet P ops C Q (o :: rest) a :=
  wpQuiet_run hw _ (fun w _ => by
    unfold execOp
    simp only [ho, hx, hy, Sem.run_bind, run_eqGuard_agg _ _ _ _ _ _ _ hg, Result.andThen_ok, h, Sem.run_pure]) hk
def TellS (m : Map8) (bt bm : Nat) (w : World) : Prop := RowAt w bt (bools (tl (tOf m))) 46 ∧ RowAt w bm m.arr 40
theorem TellS.range1 {m : Map8} {bt bm : Nat} {w : World} (h : TellS m bt bm w) : w.rangeAt bt 0 ((tl (tOf m)).map Value.bool) := fun j v hv => by rw [Nat.zero_add]; exact h.1.cell (by simpa [bools] using hv)
theorem TellS.range2 {m : Map8} {bt bm : Nat} {w : World} (h : TellS m bt bm w) : w.rangeAt bm 0 (m.ws.map (Value.int .u64)) := fun j v hv => by rw [Nat.zero_add]; exact h.2.cell (by simpa [Map8.arr] using hv)
theorem TellS.ext {m : Map8} {bt bm : Nat} {w w' : World} (h : TellS m bt bm w) (hb : Below w.heap.size w w') : TellS m bt bm w' := ⟨RowAt.ext h.1 hb, RowAt.ext h.2 hb⟩

theorem low_hd (m : Map8) (p : Nat × Nat) (r : List (Nat × Nat)) (h : allI m = p :: r) : lowI m = ((p.1 : Int), (p.2 : Int)) := by rw [lowI, h]
theorem low_nil (m : Map8) (h : allI m = []) : lowI m = (-1, -1) := by rw [lowI, h]
set_option maxHeartbeats 32000000 in
set_option maxRecDepth 100000 in
theorem OccTells_m (m : Map8) (ms : Nat → Map8) (len cap : Nat) (a : Option Addr) (b o : Nat) (w : World) (hT : Tab w) (hlc : len ≤ cap) (hcm : cap ≤ maxLen) (ha : 0 < len → a = some ⟨b, o, none⟩ ∧ MapsAt w b o ms len) :
    Calls Tryd.prog 9 #[m.val, .slice a len cap] w fun e w' => e = .returned (.bool true) ∧ Below w.heap.size w w' := by
  have HA := Lib.hid ha
  clear ha
  obtain ⟨n, hn⟩ : ∃ n, n = min len 5 := ⟨_, rfl⟩
  have hn1 : n ≤ len := by omega
  have hn2 : n ≤ 5 := by omega
  have hmn : min (len : Int) 5 = (n : Int) := by omega
  have hnc : n ≤ cap := by omega
  clear hn
  unfold Map8.val
  go_enter Tryd.func9, Tryd.ntmps9
  go_upto_region 1 with fail
  refine wp_name (Pr := fun W => RowAt W w.heap.size m.arr 40 ∧ Tab W ∧ Below w.heap.size w W) ⟨RowAt.new w _ _, hT.ext (below_new (Below.refl _ _) _), below_new (Below.refl _ _) _⟩ ?_
  rintro W1 ⟨hM, hT1, hB1⟩
  have HM := Lib.hid hM
  have HT1 := Lib.hid hT1
  have HB1 := Lib.hid hB1
  clear hM hT1 hB1 hT
  go_upto_region 2 with (first | (refine wpList_load_row rfl 40 (.tmp 2) rfl w.heap.size rfl 40 (m.arr) (0, 0) _ HM.out Tryd.underlying40 rfl (hiM m) ?_) | (go_at_call 41; refine (of_any m _).mono ?_; rintro e w2 ⟨rfl, hb2⟩; have hM2 := RowAt.ext HM.out hb2; have hT2 := HT1.out.ext hb2; have hB2 := below_then HB1.out hb2; have HM2 := Lib.hid hM2; have HT2 := Lib.hid hT2; have HB2 := Lib.hid hB2; clear hM2 hT2 hB2 hb2) | (refine wpList_store_row rfl 46 (.tmp 5) (.tmp 17) rfl w2.heap.size (bools (tl (tOf m))) rfl rfl 46 _ (RowAt.new w2 _ _) (hiT _) (by rw [zeros46]; exact sizeT _ _) (bools_one _) ?_))
  refine wp_name (Pr := fun W => RowAt W w.heap.size m.arr 40 ∧ RowAt W w2.heap.size (bools (tl (tOf m))) 46 ∧ Tab W ∧ Below w.heap.size w W) ⟨RowAt.setRow_other (HM2.out.alloc _) (by have := HM2.out.lt; omega) _, RowAt.setRow (RowAt.new w2 _ _) _, HT2.out.ext (below_setRow (below_new (Below.refl _ _) _) (Nat.le_refl _) _), below_setRow (below_new HB2.out _) (by have := HM2.out.lt; omega) _⟩ ?_
  obtain ⟨bt, hbt⟩ : ∃ bt, w2.heap.size = bt := ⟨_, rfl⟩
  have hne : w.heap.size ≠ bt := by have := HM2.out.lt; omega
  rw [hbt]
  clear HM HT1 HB1 HM2 HT2 HB2 hbt
  rintro W ⟨hM, hR, hT, hB⟩
  have HM := Lib.hid hM
  have HT := Lib.hid hT
  have HB := Lib.hid hB
  have hS : TellS m bt w.heap.size W := ⟨hR, hM⟩
  have HS := Lib.hid (fun w8 (h8 : Below W.heap.size W w8) => hS.ext h8)
  have hS0 := hS.ext (Below.refl _ _).drew
  clear hM hR hT hB hS
  refine wp_region_held_drew (S := fun w' => TellS m bt w.heap.size w') (by kernel_rfl) hS0 (fun hHeld => ?_)
  refine' wpAnyH_take (i := 0) (v := _) rfl (by kernel_rfl) (by kernel_rfl) (by kernel_rfl) (fun _ _ _ h => h) (yieldsIf_load_mid (by rfl) _ _ rfl _ _ rfl ((tl (tOf m)).map Value.bool) _ (fun w h => h.range1) Tryd.underlying46 rfl (hiT' _)) hHeld ?_
  try simp only [Act.put, List.setIfInBounds_toArray, List.set_cons_zero, List.set_cons_succ]
  refine' wpAnyH_take (i := 2) (v := _) rfl (by kernel_rfl) (by kernel_rfl) (by kernel_rfl) (fun _ _ _ h => h) (yieldsIf_load_mid (by rfl) _ _ rfl _ _ rfl (m.ws.map (Value.int .u64)) _ (fun w h => h.range2) Tryd.underlying40 rfl (hiM' _)) hHeld ?_
  try simp only [Act.put, List.setIfInBounds_toArray, List.set_cons_zero, List.set_cons_succ]
  refine wpAnyH_ready (rs := [1]) (by kernel_rfl) (by simp) ?_
  refine AllReadyH.cons rfl (fun K hK => ?_) AllReadyH.nil
  go_simp
  go_at_call 48
  refine (rall_any m _).mono ?_
  rintro e w8 ⟨v8, rfl, hS8, hb8⟩
  have hk8 := HS.out w8 (below_then (Below.refl _ _).drew hb8)
  have HS8 := Lib.hid hS8
  have HB8 := Lib.hid hb8
  clear hS8 hb8
  refine hK.out _ _ hk8 (fun hHeld => ?_)
  clear hK K
  try simp only [Act.put, List.setIfInBounds_toArray, List.set_cons_zero, List.set_cons_succ]
  refine wpAnyH_ready (rs := [3]) (by kernel_rfl) (by simp) ?_
  refine AllReadyH.cons rfl (fun K hK => ?_) AllReadyH.nil
  go_simp
  go_at_call 49
  refine (all_any m _ (HT.out.ext (below_then (Below.refl _ _).drew HB8.out))).mono ?_
  rintro e w9 ⟨v9, rfl, hS9, hb9⟩
  have hk9 := HS.out w9 (below_then (below_then (Below.refl _ _).drew HB8.out) hb9)
  have HS9 := Lib.hid hS9
  have HB9 := Lib.hid hb9
  clear hS9 hb9
  refine hK.out _ _ hk9 (fun hHeld => ?_)
  clear hK K
  try simp only [Act.put, List.setIfInBounds_toArray, List.set_cons_zero, List.set_cons_succ]
  refine wpAnyH_ready (rs := [4]) (by kernel_rfl) (by simp) ?_
  refine AllReadyH.cons rfl (fun K hK => ?_) AllReadyH.nil
  go_simp
  refine hK.out _ _ hHeld (fun hHeld => ?_)
  clear hK K
  try simp only [Act.put, List.setIfInBounds_toArray, List.set_cons_zero, List.set_cons_succ]
  refine wpAnyH_ready (rs := [5]) (by kernel_rfl) (by simp) ?_
  refine AllReadyH.cons rfl (fun K hK => ?_) AllReadyH.nil
  go_simp
  refine hK.out _ _ hHeld (fun hHeld => ?_)
  clear hK K
  try simp only [Act.put, List.setIfInBounds_toArray, List.set_cons_zero, List.set_cons_succ]
  refine wpAnyH_done (by kernel_rfl) ?_ _
  dsimp only [Exit.then]
  have hSl8 := HS8.out.ext HB9.out
  have hSl9 := HS9.out
  obtain ⟨N, hN⟩ : ∃ N, (allI m).length = N := ⟨_, rfl⟩
  have hNl : N ≤ 512 := by rw [← hN]; exact allI_length m
  rw [hN] at hSl8 hSl9
  obtain ⟨a8, cap8, rfl, hn8, hm8, hc8⟩ := hSl8
  obtain ⟨a9, cap9, rfl, hn9, hm9, hc9⟩ := hSl9
  have hBB : Below w.heap.size w w9 := below_then HB.out (below_then (below_then (Below.refl _ _).drew HB8.out) HB9.out)
  have hTT : Tab w9 := HT.out.ext (below_then (below_then (Below.refl _ _).drew HB8.out) HB9.out)
  have HC8 := Lib.hid hc8
  have HC9 := Lib.hid hc9
  have HBB := Lib.hid hBB
  have HTT := Lib.hid hTT
  have HNN := Lib.hid hN
  have cCount := fun (y : Ext w9.heap.size w9) => count_arr m y.world (hTT.ext y.ok)
  rw [hN] at cCount
  have hM9 := hHeld.2
  rw [m.arr_eq] at hM9
  obtain ⟨hkM, _⟩ := Ext.cells hM9
  clear HS8 HS9 HB8 HB9 HS HT HB HM hHeld hk8 hk9 hS0 hc8 hc9 hBB hTT hN hM9
  refine k_start (w := w9) ?_
  intro x
  go_at_K
  go_upto_region 4 with (go_at_call 50; refine (lowest_arr m _ (HTT.out.ext (Ext.ok _))).mono ?_; rintro e wr ⟨rfl, hbr⟩; obtain ⟨y, rfl⟩ := Ext.step _ hbr; clear hbr)
  obtain ⟨L1, hL1⟩ : ∃ L, (lowI m).1 = L := ⟨_, rfl⟩
  obtain ⟨L2, hL2⟩ : ∃ L, (lowI m).2 = L := ⟨_, rfl⟩
  rw [hL1, hL2]
  have HL1 := Lib.hid hL1
  have HL2 := Lib.hid hL2
  clear hL1 hL2
  have eN1 : ((N : Int) != (N : Int)) = false := bne_f rfl
  have eN2 : (N != N) = false := bne_f rfl
  go_upto_region 7 with (go_at_call 51; refine (cCount _).mono ?_; rintro e wr ⟨rfl, hbr⟩; obtain ⟨y, rfl⟩ := Ext.step _ hbr; clear hbr)
  clear cCount
  go_loopw [10] (fun t wr => ∃ (i : Nat) (z : Ext w9.heap.size w9), i ≤ N ∧ t = .int .i64 i ∧ wr = z.world) (fun t _ => N - (intOf t).toNat)
  case atStart => exact ⟨0, _, by omega, rfl, rfl⟩
  case round =>
    obtain ⟨i, z, hi, rfl, rfl⟩ := hrel
    by_cases hlt : i < N
    · obtain ⟨g8, rfl, hg8, -, q8⟩ := HC8.out (by omega)
      obtain ⟨g9, rfl, hg9, -, q9⟩ := HC9.out (by omega)
      obtain ⟨p, hp⟩ : ∃ p, (allI m)[i]? = some p := ⟨_, List.getElem?_eq_getElem (by rw [HNN.out]; exact hlt)⟩
      obtain ⟨u1, u2⟩ := flat_pc (allI m) i p hp
      obtain ⟨P1, hP1⟩ : ∃ P1 : Int, (p.1 : Int) = P1 := ⟨_, rfl⟩
      obtain ⟨P2, hP2⟩ : ∃ P2 : Int, (p.2 : Int) = P2 := ⟨_, rfl⟩
      rw [hP1] at u1
      rw [hP2] at u2
      have s1 : ∀ y : Ext w9.heap.size w9, y.world.cell? ⟨g8, i * 2, none⟩ = some (.int .i64 P1) := fun y => (y.ok.cell (p := ⟨g8, i * 2, none⟩) hg8).trans (q8 _ _ u1)
      have s2 : ∀ y : Ext w9.heap.size w9, y.world.cell? ⟨g8, i * 2 + 1, none⟩ = some (.int .i64 P2) := fun y => (y.ok.cell (p := ⟨g8, i * 2 + 1, none⟩) hg8).trans (q8 _ _ u2)
      have s3 : ∀ y : Ext w9.heap.size w9, y.world.cell? ⟨g9, i * 2, none⟩ = some (.int .i64 P1) := fun y => (y.ok.cell (p := ⟨g9, i * 2, none⟩) hg9).trans (q9 _ _ u1)
      have s4 : ∀ y : Ext w9.heap.size w9, y.world.cell? ⟨g9, i * 2 + 1, none⟩ = some (.int .i64 P2) := fun y => (y.ok.cell (p := ⟨g9, i * 2 + 1, none⟩) hg9).trans (q9 _ _ u2)
      have hneq := fun w => neq_pair P1 P2 P1 P2 w rfl
      have dd : decide ((i : Int) < (N : Int)) = true := dec_t (by omega)
      have i0 : (0 : Int) ≤ (i : Int) := by omega
      have i1 : (i : Int) < (N : Int) := by omega
      clear q8 q9 u1 u2 hP1 hP2 hp
      go_upto_region 9 with fail
      refine wp_region_ext _ (by kernel_rfl) (by kernel_rfl) ?_
      repeat (first | (refine wpQuiet_neq_agg rfl 61 61 (.tmp 48) (.tmp 52) rfl _ _ rfl rfl false Tryd.eqGuardType61 hneq ?_; simp only [Act.put, List.setIfInBounds_toArray, List.set_cons_succ, List.set_cons_zero]) | go_big_quiet_step (fail))
      refine wpQuiet_nil ?_
      rintro _ ⟨y, rfl⟩
      go_wp2_with fail
      go_roundw
      case measure => simp [intOf]; omega
      case rel => exact ⟨i + 1, _, by omega, by go_num, rfl⟩
    · obtain rfl : i = N := by omega
      have dd : decide ((i : Int) < (i : Int)) = false := dec_f (by omega)
      have hLL : (i = 0 ∧ L1 = -1 ∧ L2 = -1) ∨ (0 < i ∧ ∃ p r, allI m = p :: r ∧ (p.1 : Int) = L1 ∧ (p.2 : Int) = L2) := by
        have e1 := HL1.out
        have e2 := HL2.out
        have e3 := HNN.out
        cases hc : allI m with
        | nil =>
          rw [low_nil m hc] at e1 e2
          rw [hc] at e3
          exact .inl ⟨by simpa using e3.symm, e1.symm, e2.symm⟩
        | cons p r =>
          rw [low_hd m p r hc] at e1 e2
          rw [hc] at e3
          exact .inr ⟨by rw [← e3]; simp, p, r, rfl, e1, e2⟩
      rcases hLL with ⟨rfl, rfl, rfl⟩ | ⟨hpos, p, r, hpr, rfl, rfl⟩
      · have e0 : (0 : Int) = 0 := rfl
        go_upto_region 14 with fail
        simp only [show (if (5 : Int) < (len : Int) then (5 : Int) else (len : Int)) = (n : Int) by split <;> omega, Int.toNat_natCast]
        go_upto_region 15 with (first | (go_at_call 52; refine (or_any ms n cap a b o _ (by omega) (fun h => ⟨(HA.out (by omega)).1, ((HA.out (by omega)).2.ext (below_then HBB.out z.ok)).less hn1⟩)).mono ?_; rintro e wo ⟨rfl, hbo⟩) | (refine wpList_store_row rfl 40 (.tmp 11) (.tmp 85) rfl wo.heap.size ((orM ms n).arr) rfl rfl 40 _ (RowAt.new wo _ _) (hiM _) (by rw [Map8.size]; rfl) (m_one _) ?_))
        refine wp_name (Pr := fun W => RowAt W wo.heap.size (orM ms n).arr 40 ∧ (0 < n → a = some ⟨b, o, none⟩ ∧ MapsAt W b o ms n) ∧ Tab W ∧ Below w.heap.size w W)
          ⟨RowAt.setRow (RowAt.new wo _ _) _, fun h => ⟨(HA.out (by omega)).1, ((HA.out (by omega)).2.ext (below_then HBB.out (below_then z.ok (below_setRow (below_new hbo _) hbo.size _)))).less hn1⟩, HTT.out.ext (below_then z.ok (below_setRow (below_new hbo _) hbo.size _)), below_then HBB.out (below_then z.ok (below_setRow (below_new hbo _) hbo.size _))⟩ ?_
        obtain ⟨g, hg⟩ : ∃ g, wo.heap.size = g := ⟨_, rfl⟩
        rw [hg]
        clear HA HBB HTT HC8 HC9 HNN HL1 HL2 hkM hbo hg z x y
        rintro W ⟨hG, hA, hT, hB⟩
        have HA := Lib.hid hA
        have HT := Lib.hid hT
        have HB := Lib.hid hB
        rw [(orM ms n).arr_eq] at hG
        obtain ⟨hkG, _⟩ := Ext.cells hG
        clear hG hA hT hB
        dsimp only [Act.put]
        refine wp_start (w := W) ?_
        intro x
        go_upto_region 16 with fail
        go_loopw [12] (fun t wr => ∃ (k : Nat) (z : Ext W.heap.size W), k ≤ 8 ∧ t = .int .i64 k ∧ wr = z.world) (fun t _ => 8 - (intOf t).toNat)
        case atStart => exact ⟨0, _, by omega, rfl, rfl⟩
        case round =>
          clear x
          obtain ⟨k, z, hk, rfl, rfl⟩ := hrel
          by_cases hk8 : k < 8
          · have dk : decide ((k : Int) < 8) = true := dec_t (by omega)
            go_upto_region 19 with fail
            go_loopw [13] (fun t wr => ∃ (s : Nat) (z : Ext W.heap.size W), s ≤ 64 ∧ t = .int .i64 s ∧ wr = z.world) (fun t _ => 64 - (intOf t).toNat)
            case atStart => exact ⟨0, _, by omega, rfl, rfl⟩
            case round =>
              clear z
              obtain ⟨s, z, hs, rfl, rfl⟩ := hrel
              by_cases hs6 : s < 64
              · have ds : decide ((s : Int) < 64) = true := dec_t (by omega)
                go_upto_region 23 with fail
                go_loopw [14, 15] (fun v t wr => ∃ (i : Nat) (z : Ext W.heap.size W), i ≤ n ∧ v = .bool (anyI ms k s i) ∧ t = .int .i64 i ∧ wr = z.world) (fun _ t _ => n - (intOf t).toNat)
                case atStart => exact ⟨0, _, by omega, rfl, rfl, rfl⟩
                case round =>
                  clear z
                  obtain ⟨i, z, hi, rfl, rfl, rfl⟩ := hrel
                  by_cases hin : i < n
                  · have di : decide ((i : Int) < (n : Int)) = true := dec_t (by omega)
                    have i0 : (0 : Int) ≤ (i : Int) := by omega
                    have i1 : (i : Int) < (n : Int) := by omega
                    have hsu := anyI_succ ms k s i
                    obtain ⟨rfl, hMs⟩ := HA.out (by omega)
                    have q0 : ∀ y : Ext W.heap.size W, y.world.cell? ⟨b, o + i * 8, none⟩ = some (.int .u64 ((ms i).at 0)) := fun y => (y.ok.cell (p := ⟨b, o + i * 8 + 0, none⟩) hMs.1).trans (hMs.cells hin 0 (by omega))
                    have q1 : ∀ y : Ext W.heap.size W, y.world.cell? ⟨b, o + i * 8 + 1, none⟩ = some (.int .u64 ((ms i).at 1)) := fun y => (y.ok.cell (p := ⟨b, o + i * 8 + 1, none⟩) hMs.1).trans (hMs.cells hin 1 (by omega))
                    have q2 : ∀ y : Ext W.heap.size W, y.world.cell? ⟨b, o + i * 8 + 2, none⟩ = some (.int .u64 ((ms i).at 2)) := fun y => (y.ok.cell (p := ⟨b, o + i * 8 + 2, none⟩) hMs.1).trans (hMs.cells hin 2 (by omega))
                    have q3 : ∀ y : Ext W.heap.size W, y.world.cell? ⟨b, o + i * 8 + 3, none⟩ = some (.int .u64 ((ms i).at 3)) := fun y => (y.ok.cell (p := ⟨b, o + i * 8 + 3, none⟩) hMs.1).trans (hMs.cells hin 3 (by omega))
                    have q4 : ∀ y : Ext W.heap.size W, y.world.cell? ⟨b, o + i * 8 + 4, none⟩ = some (.int .u64 ((ms i).at 4)) := fun y => (y.ok.cell (p := ⟨b, o + i * 8 + 4, none⟩) hMs.1).trans (hMs.cells hin 4 (by omega))
                    have q5 : ∀ y : Ext W.heap.size W, y.world.cell? ⟨b, o + i * 8 + 5, none⟩ = some (.int .u64 ((ms i).at 5)) := fun y => (y.ok.cell (p := ⟨b, o + i * 8 + 5, none⟩) hMs.1).trans (hMs.cells hin 5 (by omega))
                    have q6 : ∀ y : Ext W.heap.size W, y.world.cell? ⟨b, o + i * 8 + 6, none⟩ = some (.int .u64 ((ms i).at 6)) := fun y => (y.ok.cell (p := ⟨b, o + i * 8 + 6, none⟩) hMs.1).trans (hMs.cells hin 6 (by omega))
                    have q7 : ∀ y : Ext W.heap.size W, y.world.cell? ⟨b, o + i * 8 + 7, none⟩ = some (.int .u64 ((ms i).at 7)) := fun y => (y.ok.cell (p := ⟨b, o + i * 8 + 7, none⟩) hMs.1).trans (hMs.cells hin 7 (by omega))
                    clear hMs
                    have cH := fun w => has_arr (ms i) k s w
                    rcases Bool.eq_false_or_eq_true (anyI ms k s i) with hb | hb
                    · rw [hb, Bool.true_or] at hsu
                      have HSU := Lib.hid hsu
                      rw [hb]
                      clear hb hsu
                      go_wp2_with fail
                      go_roundw
                      case measure => simp [intOf]; omega
                      case rel => exact ⟨i + 1, z, by omega, by rw [HSU.out], by go_num, rfl⟩
                    · rw [hb, Bool.false_or] at hsu
                      have HSU := Lib.hid hsu
                      rw [hb]
                      clear hb hsu
                      go_wp2_with (go_at_call 39; refine (cH _).mono ?_; rintro e wr ⟨rfl, hbr⟩; obtain ⟨y, rfl⟩ := Ext.step _ hbr; clear hbr)
                      go_roundw
                      case measure => simp [intOf]; omega
                      case rel => exact ⟨i + 1, _, by omega, by rw [HSU.out], by go_num, rfl⟩
                  · obtain rfl : i = n := by omega
                    have di : decide ((i : Int) < (i : Int)) = false := dec_f (by omega)
                    have cH := fun w => has_arr (orM ms i) k s w
                    rw [or_has ms k s i hk8 hs6] at cH
                    obtain ⟨H, hH⟩ : ∃ H, anyI ms k s i = H := ⟨_, rfl⟩
                    rw [hH] at cH ⊢
                    have eH : (H != H) = false := bne_f rfl
                    go_wp2_with (go_at_call 39; refine (cH _).mono ?_; rintro e wr ⟨rfl, hbr⟩; obtain ⟨y, rfl⟩ := Ext.step _ hbr; clear hbr)
                    go_roundw
                    case measure => simp [intOf]; omega
                    case rel => exact ⟨s + 1, _, by omega, by go_num, rfl⟩
              · obtain rfl : s = 64 := by omega
                have ds : decide (((64 : Nat) : Int) < 64) = false := dec_f (by omega)
                go_wp2_with fail
                go_roundw
                case measure => simp [intOf]; omega
                case rel => exact ⟨k + 1, _, by omega, by go_num, rfl⟩
          · obtain rfl : k = 8 := by omega
            have dk : decide (((8 : Nat) : Int) < 8) = false := dec_f (by omega)
            go_wp2_with (go_at_call 40; refine (known15 _ (HT.out.ext (Ext.ok _))).mono ?_; rintro e wr ⟨rfl, hbr⟩; obtain ⟨y, rfl⟩ := Ext.step _ hbr; clear hbr)
            go_ret
            exact ⟨rfl, below_then HB.out (Ext.ok _)⟩
      · obtain ⟨g8, rfl, hg8, -, q8⟩ := HC8.out hpos
        obtain ⟨u1, u2⟩ := flat_pc (allI m) 0 p (by rw [hpr]; rfl)
        obtain ⟨P1, hP1⟩ : ∃ P1 : Int, (p.1 : Int) = P1 := ⟨_, rfl⟩
        obtain ⟨P2, hP2⟩ : ∃ P2 : Int, (p.2 : Int) = P2 := ⟨_, rfl⟩
        rw [hP1] at u1 ⊢
        rw [hP2] at u2 ⊢
        have s1 : ∀ y : Ext w9.heap.size w9, y.world.cell? ⟨g8, 0, none⟩ = some (.int .i64 P1) := fun y => (y.ok.cell (p := ⟨g8, 0, none⟩) hg8).trans (q8 _ _ u1)
        have s2 : ∀ y : Ext w9.heap.size w9, y.world.cell? ⟨g8, 1, none⟩ = some (.int .i64 P2) := fun y => (y.ok.cell (p := ⟨g8, 1, none⟩) hg8).trans (q8 _ _ u2)
        have hneq := fun w => neq_pair P1 P2 P1 P2 w rfl
        have d1 : ((i : Int) == 0) = false := beq_f (by omega)
        have d2 : decide ((0 : Int) < (i : Int)) = true := dec_t (by omega)
        have d3 : (i == 0) = false := beq_f (by omega)
        have d4 : decide (0 < i) = true := dec_t (by omega)
        have i1 : (0 : Int) < (i : Int) := by omega
        clear q8 u1 u2 hP1 hP2 hpr
        go_upto_region 13 with (first | simp only [hneq] | fail)
        clear hneq s1 s2
        go_upto_region 14 with fail
        simp only [show (if (5 : Int) < (len : Int) then (5 : Int) else (len : Int)) = (n : Int) by split <;> omega, Int.toNat_natCast]
        go_upto_region 15 with (first | (go_at_call 52; refine (or_any ms n cap a b o _ (by omega) (fun h => ⟨(HA.out (by omega)).1, ((HA.out (by omega)).2.ext (below_then HBB.out z.ok)).less hn1⟩)).mono ?_; rintro e wo ⟨rfl, hbo⟩) | (refine wpList_store_row rfl 40 (.tmp 11) (.tmp 85) rfl wo.heap.size ((orM ms n).arr) rfl rfl 40 _ (RowAt.new wo _ _) (hiM _) (by rw [Map8.size]; rfl) (m_one _) ?_))
        refine wp_name (Pr := fun W => RowAt W wo.heap.size (orM ms n).arr 40 ∧ (0 < n → a = some ⟨b, o, none⟩ ∧ MapsAt W b o ms n) ∧ Tab W ∧ Below w.heap.size w W)
          ⟨RowAt.setRow (RowAt.new wo _ _) _, fun h => ⟨(HA.out (by omega)).1, ((HA.out (by omega)).2.ext (below_then HBB.out (below_then z.ok (below_setRow (below_new hbo _) hbo.size _)))).less hn1⟩, HTT.out.ext (below_then z.ok (below_setRow (below_new hbo _) hbo.size _)), below_then HBB.out (below_then z.ok (below_setRow (below_new hbo _) hbo.size _))⟩ ?_
        obtain ⟨g, hg⟩ : ∃ g, wo.heap.size = g := ⟨_, rfl⟩
        rw [hg]
        clear HA HBB HTT HC8 HC9 HNN HL1 HL2 hkM hbo hg z x y
        rintro W ⟨hG, hA, hT, hB⟩
        have HA := Lib.hid hA
        have HT := Lib.hid hT
        have HB := Lib.hid hB
        rw [(orM ms n).arr_eq] at hG
        obtain ⟨hkG, _⟩ := Ext.cells hG
        clear hG hA hT hB
        dsimp only [Act.put]
        refine wp_start (w := W) ?_
        intro x
        go_upto_region 16 with fail
        go_loopw [12] (fun t wr => ∃ (k : Nat) (z : Ext W.heap.size W), k ≤ 8 ∧ t = .int .i64 k ∧ wr = z.world) (fun t _ => 8 - (intOf t).toNat)
        case atStart => exact ⟨0, _, by omega, rfl, rfl⟩
        case round =>
          clear x
          obtain ⟨k, z, hk, rfl, rfl⟩ := hrel
          by_cases hk8 : k < 8
          · have dk : decide ((k : Int) < 8) = true := dec_t (by omega)
            go_upto_region 19 with fail
            go_loopw [13] (fun t wr => ∃ (s : Nat) (z : Ext W.heap.size W), s ≤ 64 ∧ t = .int .i64 s ∧ wr = z.world) (fun t _ => 64 - (intOf t).toNat)
            case atStart => exact ⟨0, _, by omega, rfl, rfl⟩
            case round =>
              clear z
              obtain ⟨s, z, hs, rfl, rfl⟩ := hrel
              by_cases hs6 : s < 64
              · have ds : decide ((s : Int) < 64) = true := dec_t (by omega)
                go_upto_region 23 with fail
                go_loopw [14, 15] (fun v t wr => ∃ (i : Nat) (z : Ext W.heap.size W), i ≤ n ∧ v = .bool (anyI ms k s i) ∧ t = .int .i64 i ∧ wr = z.world) (fun _ t _ => n - (intOf t).toNat)
                case atStart => exact ⟨0, _, by omega, rfl, rfl, rfl⟩
                case round =>
                  clear z
                  obtain ⟨i, z, hi, rfl, rfl, rfl⟩ := hrel
                  by_cases hin : i < n
                  · have di : decide ((i : Int) < (n : Int)) = true := dec_t (by omega)
                    have i0 : (0 : Int) ≤ (i : Int) := by omega
                    have i1 : (i : Int) < (n : Int) := by omega
                    have hsu := anyI_succ ms k s i
                    obtain ⟨rfl, hMs⟩ := HA.out (by omega)
                    have q0 : ∀ y : Ext W.heap.size W, y.world.cell? ⟨b, o + i * 8, none⟩ = some (.int .u64 ((ms i).at 0)) := fun y => (y.ok.cell (p := ⟨b, o + i * 8 + 0, none⟩) hMs.1).trans (hMs.cells hin 0 (by omega))
                    have q1 : ∀ y : Ext W.heap.size W, y.world.cell? ⟨b, o + i * 8 + 1, none⟩ = some (.int .u64 ((ms i).at 1)) := fun y => (y.ok.cell (p := ⟨b, o + i * 8 + 1, none⟩) hMs.1).trans (hMs.cells hin 1 (by omega))
                    have q2 : ∀ y : Ext W.heap.size W, y.world.cell? ⟨b, o + i * 8 + 2, none⟩ = some (.int .u64 ((ms i).at 2)) := fun y => (y.ok.cell (p := ⟨b, o + i * 8 + 2, none⟩) hMs.1).trans (hMs.cells hin 2 (by omega))
                    have q3 : ∀ y : Ext W.heap.size W, y.world.cell? ⟨b, o + i * 8 + 3, none⟩ = some (.int .u64 ((ms i).at 3)) := fun y => (y.ok.cell (p := ⟨b, o + i * 8 + 3, none⟩) hMs.1).trans (hMs.cells hin 3 (by omega))
                    have q4 : ∀ y : Ext W.heap.size W, y.world.cell? ⟨b, o + i * 8 + 4, none⟩ = some (.int .u64 ((ms i).at 4)) := fun y => (y.ok.cell (p := ⟨b, o + i * 8 + 4, none⟩) hMs.1).trans (hMs.cells hin 4 (by omega))
                    have q5 : ∀ y : Ext W.heap.size W, y.world.cell? ⟨b, o + i * 8 + 5, none⟩ = some (.int .u64 ((ms i).at 5)) := fun y => (y.ok.cell (p := ⟨b, o + i * 8 + 5, none⟩) hMs.1).trans (hMs.cells hin 5 (by omega))
                    have q6 : ∀ y : Ext W.heap.size W, y.world.cell? ⟨b, o + i * 8 + 6, none⟩ = some (.int .u64 ((ms i).at 6)) := fun y => (y.ok.cell (p := ⟨b, o + i * 8 + 6, none⟩) hMs.1).trans (hMs.cells hin 6 (by omega))
                    have q7 : ∀ y : Ext W.heap.size W, y.world.cell? ⟨b, o + i * 8 + 7, none⟩ = some (.int .u64 ((ms i).at 7)) := fun y => (y.ok.cell (p := ⟨b, o + i * 8 + 7, none⟩) hMs.1).trans (hMs.cells hin 7 (by omega))
                    clear hMs
                    have cH := fun w => has_arr (ms i) k s w
                    rcases Bool.eq_false_or_eq_true (anyI ms k s i) with hb | hb
                    · rw [hb, Bool.true_or] at hsu
                      have HSU := Lib.hid hsu
                      rw [hb]
                      clear hb hsu
                      go_wp2_with fail
                      go_roundw
                      case measure => simp [intOf]; omega
                      case rel => exact ⟨i + 1, z, by omega, by rw [HSU.out], by go_num, rfl⟩
                    · rw [hb, Bool.false_or] at hsu
                      have HSU := Lib.hid hsu
                      rw [hb]
                      clear hb hsu
                      go_wp2_with (go_at_call 39; refine (cH _).mono ?_; rintro e wr ⟨rfl, hbr⟩; obtain ⟨y, rfl⟩ := Ext.step _ hbr; clear hbr)
                      go_roundw
                      case measure => simp [intOf]; omega
                      case rel => exact ⟨i + 1, _, by omega, by rw [HSU.out], by go_num, rfl⟩
                  · obtain rfl : i = n := by omega
                    have di : decide ((i : Int) < (i : Int)) = false := dec_f (by omega)
                    have cH := fun w => has_arr (orM ms i) k s w
                    rw [or_has ms k s i hk8 hs6] at cH
                    obtain ⟨H, hH⟩ : ∃ H, anyI ms k s i = H := ⟨_, rfl⟩
                    rw [hH] at cH ⊢
                    have eH : (H != H) = false := bne_f rfl
                    go_wp2_with (go_at_call 39; refine (cH _).mono ?_; rintro e wr ⟨rfl, hbr⟩; obtain ⟨y, rfl⟩ := Ext.step _ hbr; clear hbr)
                    go_roundw
                    case measure => simp [intOf]; omega
                    case rel => exact ⟨s + 1, _, by omega, by go_num, rfl⟩
              · obtain rfl : s = 64 := by omega
                have ds : decide (((64 : Nat) : Int) < 64) = false := dec_f (by omega)
                go_wp2_with fail
                go_roundw
                case measure => simp [intOf]; omega
                case rel => exact ⟨k + 1, _, by omega, by go_num, rfl⟩
          · obtain rfl : k = 8 := by omega
            have dk : decide (((8 : Nat) : Int) < 8) = false := dec_f (by omega)
            go_wp2_with (go_at_call 40; refine (known15 _ (HT.out.ext (Ext.ok _))).mono ?_; rintro e wr ⟨rfl, hbr⟩; obtain ⟨y, rfl⟩ := Ext.step _ hbr; clear hbr)
            go_ret
            exact ⟨rfl, below_then HB.out (Ext.ok _)⟩
end Go.Proofs.YtnoafhfidecppaaDoor
