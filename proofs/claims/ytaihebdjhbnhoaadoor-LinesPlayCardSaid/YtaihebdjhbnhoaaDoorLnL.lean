/- Whatever a controller is asked: the walk. -/
import Derived.Test.YtaihebdjhbnhoaaDoorLnK
namespace Go.Proofs.YtaihebdjhbnhoaaDoor
open Go.RowKit
set_option linter.unusedVariables false
set_option linter.unusedSimpArgs false

theorem storeL_range {m off v : Int} (m0 : 0 ≤ m) (m1 : m ≤ 4294967295) (v0 : 0 ≤ v) (v1 : v ≤ 4294967295) : 0 ≤ (storeL m off v).1 ∧ (storeL m off v).1 ≤ 4294967295 := by
  unfold storeL
  repeat (first | (split; exact ⟨by assumption, by assumption⟩) | split)
  all_goals exact ⟨by assumption, by assumption⟩
theorem row_size (h m : Int) : ((ll h m).map Value.bool).length = 64 := by rw [List.length_map, ll_len]
/-- A whole row is loaded behind a guard that says yes. -/
theorem wpList_load_row_y {P : Program} {ops : Array Oper} {rest : List Oper} {o : Oper} {a : Act} {w : World} {Q : Exit → Act → World → Prop} (hw : Region.wanted o (yielded ops a.tmps) = true) (ty : TypeId) (x : Operand) (ho : o.op = .load ty x)
    (g : Nat) (hx : a.eval x = .pointer (some ⟨g, 0, none⟩)) (t : TypeId) (cs : Array Value) (fr : Nat × Nat) (d : TypeDesc) (hg : w.heap[g]? = some (.cells cs t fr))
    (hu : P.underlying ty = some d) (hd : (match d with | .struct _ | .array _ _ => true | _ => false) = true) (hi : (P.info? ty).map (·.size) = some cs.size)
    (h : wpList P ops Q rest (a.put o.dst (.agg cs)) w) : wpList P ops Q (o :: rest) a w :=
  BigFrame.wpList_want hw fun _ hK => wp_load_row ty x ho g hx t cs fr d hg hu hd hi (hK _ _ h)
set_option maxHeartbeats 8000000 in
set_option maxRecDepth 100000 in
theorem LinesPlay_walk (a : Option Addr) (len cap : Nat) (W : World) (hT : Tab W) (hf : Fit1 W (.slice actSh) (.slice a len cap)) :
    Calls Tryd.prog 4 #[.slice a len cap] W fun e w' => e = .returned (.bool true) ∧ Below W.heap.size W w' := by
  have HFIT := Lib.hid (fun i (hi : i < len) => act_at hf hi)
  have HT := Lib.hid hT
  clear hf hT
  go_enter Tryd.func4, Tryd.ntmps4
  go_upto_region 2 with (go_at_call 6; refine (new_any _).mono ?_; rintro e w1 ⟨b, rfl, hb, hA, hB⟩)
  obtain ⟨bm, hbm⟩ : ∃ bm, w1.heap.size = bm := ⟨_, rfl⟩
  have hne : b ≠ bm := by have := RowAt.lt hA; omega
  have hbmW : W.heap.size ≤ bm := by have := hB.size; omega
  have hM : RowAt (w1.alloc (.cells lzero 39)) bm (lrow 0 0) 39 := by rw [lrow_zero, ← hbm]; exact RowAt.new _ _ _
  have hA' : LnAt (w1.alloc (.cells lzero 39)) b 0 0 := RowAt.alloc hA _
  have hB' := below_new hB (.cells lzero 39)
  have HA := Lib.hid hA'
  have HM := Lib.hid hM
  have HB := Lib.hid hB'
  clear hA hA' hM hB hB'
  go_wp2_with fail
  refine wp_name (Pr := fun W' => LnAt W' b 0 0 ∧ RowAt W' bm (lrow 0 0) 39 ∧ Below W.heap.size W W') ⟨HA.out, HM.out, HB.out⟩ ?_
  clear HA HM HB hbm
  rintro W2 ⟨hA, hM, hB⟩
  go_loopw [3, 5] (fun r i wr => ∃ (b : Nat) (h m : Int) (j : Nat), j ≤ 60 ∧ r = .pointer (some ⟨b, 0, none⟩) ∧ i = .int .i64 j ∧ 0 ≤ h ∧ h ≤ 4294967295 ∧ 0 ≤ m ∧ m ≤ 4294967295 ∧ LnAt wr b h m ∧ RowAt wr bm (lrow h m) 39 ∧ W.heap.size ≤ b ∧ b ≠ bm ∧ Below W.heap.size W wr) (fun _ i _ => 60 - (intOf i).toNat)
  case atStart => exact ⟨b, 0, 0, 0, by omega, rfl, rfl, by decide, by decide, by decide, by decide, hA, hM, hb, hne, hB⟩
  case round =>
    clear hA hM hB hb hne
    obtain ⟨b, h, m, j, hj, rfl, rfl, h0, h1, m0, m1, hA, hM, hb, hne, hB⟩ := hrel
    by_cases hlt : j < len ∧ j < 60
    · obtain ⟨hl1, hl2⟩ := hlt
      obtain ⟨ba, oa, k, n, t, off, v, rfl, hba, o0, o1, v0, v1, q0, q1, q2, q3, q4⟩ := HFIT.out j hl1
      have qa0 := (hB.cell (p := ⟨ba, oa + j * 5, none⟩) hba).trans q0
      have qa1 := (hB.cell (p := ⟨ba, oa + j * 5 + 1, none⟩) hba).trans q1
      have qa2 := (hB.cell (p := ⟨ba, oa + j * 5 + 2, none⟩) hba).trans q2
      have qa3 := (hB.cell (p := ⟨ba, oa + j * 5 + 3, none⟩) hba).trans q3
      have qa4 := (hB.cell (p := ⟨ba, oa + j * 5 + 4, none⟩) hba).trans q4
      obtain ⟨bx, hbx⟩ : ∃ bx, wr.heap.size = bx := ⟨_, rfl⟩
      have hxb : bx ≠ b := by have := RowAt.lt hA; omega
      have hxm : bx ≠ bm := by have := RowAt.lt hM; omega
      have hA' : LnAt (wr.alloc (.cells #[.int .i64 k, .int .i64 n, .bool t, .int .u32 off, .int .u32 v] 41)) b h m := RowAt.alloc hA _
      have hM' := RowAt.alloc hM (.cells #[.int .i64 k, .int .i64 n, .bool t, .int .u32 off, .int .u32 v] 41)
      have hB' := below_new hB (.cells #[.int .i64 k, .int .i64 n, .bool t, .int .u32 off, .int .u32 v] 41)
      have hX' : RowAt (wr.alloc (.cells #[.int .i64 k, .int .i64 n, .bool t, .int .u32 off, .int .u32 v] 41)) bx #[.int .i64 k, .int .i64 n, .bool t, .int .u32 off, .int .u32 v] 41 := by rw [← hbx]; exact RowAt.new _ _ _
      have HA := Lib.hid hA'
      have HM := Lib.hid hM'
      have HX := Lib.hid hX'
      have HB := Lib.hid hB'
      clear q0 q1 q2 q3 q4 hA hM hB hA' hM' hB' hX'
      have g60 : decide ((j : Int) < 60) = true := by simp; omega
      go_upto_region 7 with (fail)
      have x0 : True := trivial
      have x1 : True := trivial
      have x2 : True := trivial
      have x3 : True := trivial
      have x4 : True := trivial
      refine wp_name (Pr := fun W' => LnAt W' b (h) (m) ∧ RowAt W' bm (lrow (h) (m)) 39 ∧ RowAt W' bx #[.int .i64 k, .int .i64 n, .bool t, .int .u32 off, .int .u32 v] 41 ∧ Below W.heap.size W W') ⟨HA.out, HM.out, HX.out, HB.out⟩ ?_
      clear HA HM HX HB x0 x1 x2 x3 x4
      rintro W3 ⟨hA, hM, hX, hB⟩
      have x0 := RowAt.cell hX (i := 0) rfl
      have x1 := RowAt.cell hX (i := 1) rfl
      have x2 := RowAt.cell hX (i := 2) rfl
      have x3 := RowAt.cell hX (i := 3) rfl
      have x4 := RowAt.cell hX (i := 4) rfl
      have HA := Lib.hid hA
      have HM := Lib.hid hM
      have HX := Lib.hid hX
      have HB := Lib.hid hB
      clear hA hM hX hB
      clear qa0 qa1 qa2 qa3 qa4 hbx
      by_cases k0 : k = 0
      · have d0 : (k == 0) = true := beq_t k0
        clear k0
        by_cases n0 : n < 0
        · have HNO : Hid (n < 0 ∨ 32 ≤ n) := Lib.hid (Or.inl n0)
          have n1 : decide (0 ≤ n) = false := dec_f (by omega)
          clear n0
          go_upto_region 37 with (go_at_call 10; refine (set_out b h m _ HA.out n t HNO.out).mono ?_; rintro e w2 ⟨rfl, hb2⟩; have hA2 := LnAt.ext HA.out hb2; have hM2 := RowAt.ext HM.out hb2; have hX2 := RowAt.ext HX.out hb2; have hB2 := below_then HB.out hb2; have HM2 := Lib.hid hM2)
          refine wp_name (Pr := fun W' => LnAt W' b (h) (m) ∧ RowAt W' bm (lrow (h) (m)) 39 ∧ RowAt W' bx #[.int .i64 k, .int .i64 n, .bool t, .int .u32 off, .int .u32 v] 41 ∧ Below W.heap.size W W') ⟨hA2, hM2, hX2, hB2⟩ ?_
          clear HA HM HX HB x0 x1 x2 x3 x4
          rintro W3 ⟨hA, hM, hX, hB⟩
          have x0 := RowAt.cell hX (i := 0) rfl
          have x1 := RowAt.cell hX (i := 1) rfl
          have x2 := RowAt.cell hX (i := 2) rfl
          have x3 := RowAt.cell hX (i := 3) rfl
          have x4 := RowAt.cell hX (i := 4) rfl
          have HA := Lib.hid hA
          have HM := Lib.hid hM
          have HX := Lib.hid hX
          have HB := Lib.hid hB
          clear hA hM hX hB
          clear hA2 hM2 hX2 hB2 hb2 HM2
          obtain ⟨ra0, ra1, rb0, rb1⟩ : (0 ≤ (h) ∧ (h) ≤ 4294967295 ∧ 0 ≤ (m) ∧ (m) ≤ 4294967295) := ⟨h0, h1, m0, m1⟩
          go_upto_region 5 with (first | (refine wpList_load_row_y rfl 39 (.tmp 4) rfl bm rfl 39 (lrow (h) (m)) (0, 0) _ HM.out Tryd.underlying39 rfl (info64 _ _) ?_) | (go_at_call 19; refine (alike_any b (h) (m) _ HA.out ra0 ra1 rb0 rb1 (HT.out.ext HB.out)).mono ?_; rintro e w2 ⟨rfl, hb2⟩; have hA2 := LnAt.ext HA.out hb2; have hM2 := RowAt.ext HM.out hb2; have hX2 := RowAt.ext HX.out hb2; have hB2 := below_then HB.out hb2; have HM2 := Lib.hid hM2))
          go_wp2_with fail
          go_roundw
          case measure => simp [intOf]; omega
          case rel => exact ⟨b, (h), (m), j + 1, by omega, rfl, by simp, ra0, ra1, rb0, rb1, LnAt.ext HA.out hb2, RowAt.ext HM.out hb2, hb, hne, below_then HB.out hb2⟩
        · by_cases n3 : n < 32
          · obtain ⟨q, rfl⟩ : ∃ q : Nat, n = (q : Int) := ⟨n.toNat, by omega⟩
            have hq : q < 32 := by omega
            have n1 : decide (0 ≤ (q : Int)) = true := dec_t (by omega)
            have n2 : decide ((q : Int) < 32) = true := dec_t (by omega)
            have q0 : (0 : Int) ≤ (q : Int) := by omega
            have q32 : (q : Int) < 32 := by omega
            have cc := RowAt.cell HM.out (bools_get (ll_lo h m hq))
            have fz := RowAt.frozen HM.out
            go_upto_region 12 with (fail)
            refine wp_name (Pr := fun W' => LnAt W' b (h) (m) ∧ RowAt W' bm (lrow (putI h (q : Int) 1 (bitV t)) (m)) 39 ∧ RowAt W' bx #[.int .i64 k, .int .i64 (q : Int), .bool t, .int .u32 off, .int .u32 v] 41 ∧ Below W.heap.size W W') ⟨RowAt.other HA.out hne _, by rw [← row_bit h m hq t]; exact RowAt.set HM.out q _, RowAt.other HX.out hxm _, below_set HB.out hbmW _⟩ ?_
            clear HA HM HX HB x0 x1 x2 x3 x4 cc fz
            rintro W3 ⟨hA, hM, hX, hB⟩
            have x0 := RowAt.cell hX (i := 0) rfl
            have x1 := RowAt.cell hX (i := 1) rfl
            have x2 := RowAt.cell hX (i := 2) rfl
            have x3 := RowAt.cell hX (i := 3) rfl
            have x4 := RowAt.cell hX (i := 4) rfl
            have HA := Lib.hid hA
            have HM := Lib.hid hM
            have HX := Lib.hid hX
            have HB := Lib.hid hB
            clear hA hM hX hB
            go_upto_region 37 with (go_at_call 10; refine (set_in b h m _ HA.out h0 h1 m0 m1 (q : Int) t q0 q32).mono ?_; rintro e w2 ⟨rfl, hA2, hF2⟩; have hM2 := RowAt.but HM.out hF2 hne.symm; have hX2 := RowAt.but HX.out hF2 hxb; have hB2 := But.below HB.out hF2 hb HB.out.size)
            refine wp_name (Pr := fun W' => LnAt W' b (putI h (q : Int) 1 (bitV t)) (m) ∧ RowAt W' bm (lrow (putI h (q : Int) 1 (bitV t)) (m)) 39 ∧ RowAt W' bx #[.int .i64 k, .int .i64 (q : Int), .bool t, .int .u32 off, .int .u32 v] 41 ∧ Below W.heap.size W W') ⟨hA2, hM2, hX2, hB2⟩ ?_
            clear HA HM HX HB x0 x1 x2 x3 x4
            rintro W3 ⟨hA, hM, hX, hB⟩
            have x0 := RowAt.cell hX (i := 0) rfl
            have x1 := RowAt.cell hX (i := 1) rfl
            have x2 := RowAt.cell hX (i := 2) rfl
            have x3 := RowAt.cell hX (i := 3) rfl
            have x4 := RowAt.cell hX (i := 4) rfl
            have HA := Lib.hid hA
            have HM := Lib.hid hM
            have HX := Lib.hid hX
            have HB := Lib.hid hB
            clear hA hM hX hB
            clear hA2 hM2 hX2 hB2 hF2
            obtain ⟨ra0, ra1, rb0, rb1⟩ : (0 ≤ (putI h (q : Int) 1 (bitV t)) ∧ (putI h (q : Int) 1 (bitV t)) ≤ 4294967295 ∧ 0 ≤ (m) ∧ (m) ≤ 4294967295) := ⟨(put_range h0 h1).1, (put_range h0 h1).2, m0, m1⟩
            go_upto_region 5 with (first | (refine wpList_load_row_y rfl 39 (.tmp 4) rfl bm rfl 39 (lrow (putI h (q : Int) 1 (bitV t)) (m)) (0, 0) _ HM.out Tryd.underlying39 rfl (info64 _ _) ?_) | (go_at_call 19; refine (alike_any b (putI h (q : Int) 1 (bitV t)) (m) _ HA.out ra0 ra1 rb0 rb1 (HT.out.ext HB.out)).mono ?_; rintro e w2 ⟨rfl, hb2⟩; have hA2 := LnAt.ext HA.out hb2; have hM2 := RowAt.ext HM.out hb2; have hX2 := RowAt.ext HX.out hb2; have hB2 := below_then HB.out hb2; have HM2 := Lib.hid hM2))
            go_wp2_with fail
            go_roundw
            case measure => simp [intOf]; omega
            case rel => exact ⟨b, (putI h (q : Int) 1 (bitV t)), (m), j + 1, by omega, rfl, by simp, ra0, ra1, rb0, rb1, LnAt.ext HA.out hb2, RowAt.ext HM.out hb2, hb, hne, below_then HB.out hb2⟩
          · have HNO : Hid (n < 0 ∨ 32 ≤ n) := Lib.hid (Or.inr (by omega))
            have n1 : decide (0 ≤ n) = true := dec_t (by omega)
            have n2 : decide (n < 32) = false := dec_f n3
            clear n0 n3
            go_upto_region 37 with (go_at_call 10; refine (set_out b h m _ HA.out n t HNO.out).mono ?_; rintro e w2 ⟨rfl, hb2⟩; have hA2 := LnAt.ext HA.out hb2; have hM2 := RowAt.ext HM.out hb2; have hX2 := RowAt.ext HX.out hb2; have hB2 := below_then HB.out hb2; have HM2 := Lib.hid hM2)
            refine wp_name (Pr := fun W' => LnAt W' b (h) (m) ∧ RowAt W' bm (lrow (h) (m)) 39 ∧ RowAt W' bx #[.int .i64 k, .int .i64 n, .bool t, .int .u32 off, .int .u32 v] 41 ∧ Below W.heap.size W W') ⟨hA2, hM2, hX2, hB2⟩ ?_
            clear HA HM HX HB x0 x1 x2 x3 x4
            rintro W3 ⟨hA, hM, hX, hB⟩
            have x0 := RowAt.cell hX (i := 0) rfl
            have x1 := RowAt.cell hX (i := 1) rfl
            have x2 := RowAt.cell hX (i := 2) rfl
            have x3 := RowAt.cell hX (i := 3) rfl
            have x4 := RowAt.cell hX (i := 4) rfl
            have HA := Lib.hid hA
            have HM := Lib.hid hM
            have HX := Lib.hid hX
            have HB := Lib.hid hB
            clear hA hM hX hB
            clear hA2 hM2 hX2 hB2 hb2 HM2
            obtain ⟨ra0, ra1, rb0, rb1⟩ : (0 ≤ (h) ∧ (h) ≤ 4294967295 ∧ 0 ≤ (m) ∧ (m) ≤ 4294967295) := ⟨h0, h1, m0, m1⟩
            go_upto_region 5 with (first | (refine wpList_load_row_y rfl 39 (.tmp 4) rfl bm rfl 39 (lrow (h) (m)) (0, 0) _ HM.out Tryd.underlying39 rfl (info64 _ _) ?_) | (go_at_call 19; refine (alike_any b (h) (m) _ HA.out ra0 ra1 rb0 rb1 (HT.out.ext HB.out)).mono ?_; rintro e w2 ⟨rfl, hb2⟩; have hA2 := LnAt.ext HA.out hb2; have hM2 := RowAt.ext HM.out hb2; have hX2 := RowAt.ext HX.out hb2; have hB2 := below_then HB.out hb2; have HM2 := Lib.hid hM2))
            go_wp2_with fail
            go_roundw
            case measure => simp [intOf]; omega
            case rel => exact ⟨b, (h), (m), j + 1, by omega, rfl, by simp, ra0, ra1, rb0, rb1, LnAt.ext HA.out hb2, RowAt.ext HM.out hb2, hb, hne, below_then HB.out hb2⟩
      · have d0 : (k == 0) = false := beq_f k0
        clear k0
        by_cases k1 : k = 1
        · have d1 : (k == 1) = true := beq_t k1
          clear k1
          go_upto_region 16 with (go_at_call 7; refine (all_live b h m _ HA.out v).mono ?_; rintro e w2 ⟨rfl, hA2, hF2⟩; have hM2 := RowAt.but HM.out hF2 hne.symm; have hX2 := RowAt.but HX.out hF2 hxb; have hB2 := But.below HB.out hF2 hb HB.out.size)
          refine wp_name (Pr := fun W' => LnAt W' b (v) (m) ∧ RowAt W' bm (lrow (h) (m)) 39 ∧ RowAt W' bx #[.int .i64 k, .int .i64 n, .bool t, .int .u32 off, .int .u32 v] 41 ∧ Below W.heap.size W W') ⟨hA2, hM2, hX2, hB2⟩ ?_
          clear HA HM HX HB x0 x1 x2 x3 x4
          rintro W3 ⟨hA, hM, hX, hB⟩
          have x0 := RowAt.cell hX (i := 0) rfl
          have x1 := RowAt.cell hX (i := 1) rfl
          have x2 := RowAt.cell hX (i := 2) rfl
          have x3 := RowAt.cell hX (i := 3) rfl
          have x4 := RowAt.cell hX (i := 4) rfl
          have HA := Lib.hid hA
          have HM := Lib.hid hM
          have HX := Lib.hid hX
          have HB := Lib.hid hB
          clear hA hM hX hB
          clear hA2 hM2 hX2 hB2 hF2
          go_upto_region 37 with (first | (go_at_call 14; refine (rbits_any v _ v0 v1).mono ?_; rintro e w2 ⟨rfl, hb2⟩; have hA2 := LnAt.ext HA.out hb2; have hM2 := RowAt.ext HM.out hb2; have hX2 := RowAt.ext HX.out hb2; have hB2 := below_then HB.out hb2; have HM2 := Lib.hid hM2; have HQ : Hid (RowAt w2 bm (((ll h m).map Value.bool).toArray) 39) := Lib.hid hM2) | (refine wpList_store_part rfl 37 (.tmp 66) (.tmp 65) rfl bm 0 ((t32 (bitI v)).map Value.bool) rfl rfl 39 ((ll h m).map Value.bool) HQ.out (info32' _) (by rw [row_size, List.length_map, t32_len]; decide) (bool_cells _) ?_; rw [high_set]))
          refine wp_name (Pr := fun W' => LnAt W' b (v) (m) ∧ RowAt W' bm (lrow (v) (m)) 39 ∧ RowAt W' bx #[.int .i64 k, .int .i64 n, .bool t, .int .u32 off, .int .u32 v] 41 ∧ Below W.heap.size W W') ⟨RowAt.setRow_other hA2 hne _, RowAt.setRow hM2 _, RowAt.setRow_other hX2 hxm _, below_setRow hB2 hbmW _⟩ ?_
          clear HA HM HX HB x0 x1 x2 x3 x4
          rintro W3 ⟨hA, hM, hX, hB⟩
          have x0 := RowAt.cell hX (i := 0) rfl
          have x1 := RowAt.cell hX (i := 1) rfl
          have x2 := RowAt.cell hX (i := 2) rfl
          have x3 := RowAt.cell hX (i := 3) rfl
          have x4 := RowAt.cell hX (i := 4) rfl
          have HA := Lib.hid hA
          have HM := Lib.hid hM
          have HX := Lib.hid hX
          have HB := Lib.hid hB
          clear hA hM hX hB
          clear hA2 hM2 hX2 hB2 hb2 HM2 HQ
          obtain ⟨ra0, ra1, rb0, rb1⟩ : (0 ≤ (v) ∧ (v) ≤ 4294967295 ∧ 0 ≤ (m) ∧ (m) ≤ 4294967295) := ⟨v0, v1, m0, m1⟩
          go_upto_region 5 with (first | (refine wpList_load_row_y rfl 39 (.tmp 4) rfl bm rfl 39 (lrow (v) (m)) (0, 0) _ HM.out Tryd.underlying39 rfl (info64 _ _) ?_) | (go_at_call 19; refine (alike_any b (v) (m) _ HA.out ra0 ra1 rb0 rb1 (HT.out.ext HB.out)).mono ?_; rintro e w2 ⟨rfl, hb2⟩; have hA2 := LnAt.ext HA.out hb2; have hM2 := RowAt.ext HM.out hb2; have hX2 := RowAt.ext HX.out hb2; have hB2 := below_then HB.out hb2; have HM2 := Lib.hid hM2))
          go_wp2_with fail
          go_roundw
          case measure => simp [intOf]; omega
          case rel => exact ⟨b, (v), (m), j + 1, by omega, rfl, by simp, ra0, ra1, rb0, rb1, LnAt.ext HA.out hb2, RowAt.ext HM.out hb2, hb, hne, below_then HB.out hb2⟩
        · have d1 : (k == 1) = false := beq_f k1
          clear k1
          by_cases k2 : k = 2
          · have d2 : (k == 2) = true := beq_t k2
            clear k2
            go_upto_region 19 with (first | (refine wpList_load_row rfl 39 (.tmp 4) rfl bm rfl 39 (lrow (h) (m)) (0, 0) _ HM.out Tryd.underlying39 rfl (info64 _ _) ?_) | (go_at_call 15; refine (rload_any h m off _ h0 h1 m0 m1 o0 o1).mono ?_; rintro e w2 ⟨rfl, hb2⟩; have hA2 := LnAt.ext HA.out hb2; have hM2 := RowAt.ext HM.out hb2; have hX2 := RowAt.ext HX.out hb2; have hB2 := below_then HB.out hb2; have HM2 := Lib.hid hM2))
            refine wp_name (Pr := fun W' => LnAt W' b (h) (m) ∧ RowAt W' bm (lrow (h) (m)) 39 ∧ RowAt W' bx #[.int .i64 k, .int .i64 n, .bool t, .int .u32 off, .int .u32 v] 41 ∧ Below W.heap.size W W') ⟨hA2, hM2, hX2, hB2⟩ ?_
            clear HA HM HX HB x0 x1 x2 x3 x4
            rintro W3 ⟨hA, hM, hX, hB⟩
            have x0 := RowAt.cell hX (i := 0) rfl
            have x1 := RowAt.cell hX (i := 1) rfl
            have x2 := RowAt.cell hX (i := 2) rfl
            have x3 := RowAt.cell hX (i := 3) rfl
            have x4 := RowAt.cell hX (i := 4) rfl
            have HA := Lib.hid hA
            have HM := Lib.hid hM
            have HX := Lib.hid hX
            have HB := Lib.hid hB
            clear hA hM hX hB
            clear hA2 hM2 hX2 hB2 hb2 HM2
            go_upto_region 20 with (go_at_call 12; refine (load_live b h m _ HA.out h0 h1 m0 m1 off o0 o1).mono ?_; rintro e w2 ⟨rfl, hb2⟩; have hA2 := LnAt.ext HA.out hb2; have hM2 := RowAt.ext HM.out hb2; have hX2 := RowAt.ext HX.out hb2; have hB2 := below_then HB.out hb2; have HM2 := Lib.hid hM2)
            refine wp_name (Pr := fun W' => LnAt W' b (h) (m) ∧ RowAt W' bm (lrow (h) (m)) 39 ∧ RowAt W' bx #[.int .i64 k, .int .i64 n, .bool t, .int .u32 off, .int .u32 v] 41 ∧ Below W.heap.size W W') ⟨hA2, hM2, hX2, hB2⟩ ?_
            clear HA HM HX HB x0 x1 x2 x3 x4
            rintro W3 ⟨hA, hM, hX, hB⟩
            have x0 := RowAt.cell hX (i := 0) rfl
            have x1 := RowAt.cell hX (i := 1) rfl
            have x2 := RowAt.cell hX (i := 2) rfl
            have x3 := RowAt.cell hX (i := 3) rfl
            have x4 := RowAt.cell hX (i := 4) rfl
            have HA := Lib.hid hA
            have HM := Lib.hid hM
            have HX := Lib.hid hX
            have HB := Lib.hid hB
            clear hA hM hX hB
            clear hA2 hM2 hX2 hB2 hb2 HM2
            obtain ⟨ra0, ra1, rb0, rb1⟩ : (0 ≤ (h) ∧ (h) ≤ 4294967295 ∧ 0 ≤ (m) ∧ (m) ≤ 4294967295) := ⟨h0, h1, m0, m1⟩
            go_upto_region 5 with (first | (refine wpList_load_row_y rfl 39 (.tmp 4) rfl bm rfl 39 (lrow (h) (m)) (0, 0) _ HM.out Tryd.underlying39 rfl (info64 _ _) ?_) | (go_at_call 19; refine (alike_any b (h) (m) _ HA.out ra0 ra1 rb0 rb1 (HT.out.ext HB.out)).mono ?_; rintro e w2 ⟨rfl, hb2⟩; have hA2 := LnAt.ext HA.out hb2; have hM2 := RowAt.ext HM.out hb2; have hX2 := RowAt.ext HX.out hb2; have hB2 := below_then HB.out hb2; have HM2 := Lib.hid hM2))
            go_wp2_with fail
            go_roundw
            case measure => simp [intOf]; omega
            case rel => exact ⟨b, (h), (m), j + 1, by omega, rfl, by simp, ra0, ra1, rb0, rb1, LnAt.ext HA.out hb2, RowAt.ext HM.out hb2, hb, hne, below_then HB.out hb2⟩
          · have d2 : (k == 2) = false := beq_f k2
            clear k2
            by_cases k3 : k = 3
            · have d3 : (k == 3) = true := beq_t k3
              clear k3
              go_upto_region 24 with (first | (refine wpList_load_row rfl 39 (.tmp 4) rfl bm rfl 39 (lrow (h) (m)) (0, 0) _ HM.out Tryd.underlying39 rfl (info64 _ _) ?_) | (go_at_call 16; refine (rstore_any h m off v _ h0 h1 m0 m1 o0 o1 v0 v1).mono ?_; rintro e w2 ⟨rfl, hb2⟩; have hA2 := LnAt.ext HA.out hb2; have hM2 := RowAt.ext HM.out hb2; have hX2 := RowAt.ext HX.out hb2; have hB2 := below_then HB.out hb2; have HM2 := Lib.hid hM2; obtain ⟨bn, hbn⟩ : ∃ bn, w2.heap.size = bn := ⟨_, rfl⟩; have hN : RowAt (w2.alloc (.cells lzero 39)) bn lzero 39 := (by rw [← hbn]; exact RowAt.new _ _ _); have HN := Lib.hid hN; clear hN) | (refine wpList_store_row rfl 39 (.tmp 12) (.tmp 100) rfl bn (lrow h (storeL m off v).1) rfl rfl 39 _ HN.out (info64 _ _) (by rw [lzero_size, lrow_size]) (lrow_one _ _) ?_))
              have nb : b ≠ bn := by have := RowAt.lt hA2; omega
              have nm : bm ≠ bn := by have := RowAt.lt hM2; omega
              have nx : bx ≠ bn := by have := RowAt.lt hX2; omega
              have nW : W.heap.size ≤ bn := by have := hB2.size; omega
              refine wp_name (Pr := fun W' => LnAt W' b (h) (m) ∧ RowAt W' bm (lrow (h) (m)) 39 ∧ RowAt W' bx #[.int .i64 k, .int .i64 n, .bool t, .int .u32 off, .int .u32 v] 41 ∧ RowAt W' bn (lrow h (storeL m off v).1) 39 ∧ Below W.heap.size W W') ⟨RowAt.setRow_other (RowAt.alloc hA2 _) nb _, RowAt.setRow_other (RowAt.alloc hM2 _) nm _, RowAt.setRow_other (RowAt.alloc hX2 _) nx _, RowAt.setRow HN.out _, below_setRow (below_new hB2 _) nW _⟩ ?_
              clear HN HA HM HX HB x0 x1 x2 x3 x4
              rintro W3 ⟨hA, hM, hX, hN, hB⟩
              have x0 := RowAt.cell hX (i := 0) rfl
              have x1 := RowAt.cell hX (i := 1) rfl
              have x2 := RowAt.cell hX (i := 2) rfl
              have x3 := RowAt.cell hX (i := 3) rfl
              have x4 := RowAt.cell hX (i := 4) rfl
              have HN := Lib.hid hN
              have HA := Lib.hid hA
              have HM := Lib.hid hM
              have HX := Lib.hid hX
              have HB := Lib.hid hB
              clear hN hA hM hX hB
              clear hA2 hM2 hX2 hB2 hb2 HM2 hbn
              go_upto_region 25 with (first | (refine wpList_load_row rfl 39 (.tmp 12) rfl bn rfl 39 (lrow h (storeL m off v).1) (0, 0) _ HN.out Tryd.underlying39 rfl (info64 _ _) ?_) | (refine wpList_store_row rfl 39 (.tmp 4) (.tmp 102) rfl bm (lrow h (storeL m off v).1) rfl rfl 39 _ HM.out (info64 _ _) (by rw [lrow_size, lrow_size]) (lrow_one _ _) ?_))
              refine wp_name (Pr := fun W' => LnAt W' b (h) (m) ∧ RowAt W' bm (lrow (h) ((storeL m off v).1)) 39 ∧ RowAt W' bx #[.int .i64 k, .int .i64 n, .bool t, .int .u32 off, .int .u32 v] 41 ∧ Below W.heap.size W W') ⟨RowAt.setRow_other HA.out hne _, RowAt.setRow HM.out _, RowAt.setRow_other HX.out hxm _, below_setRow HB.out hbmW _⟩ ?_
              clear HN HA HM HX HB x0 x1 x2 x3 x4
              rintro W3 ⟨hA, hM, hX, hB⟩
              have x0 := RowAt.cell hX (i := 0) rfl
              have x1 := RowAt.cell hX (i := 1) rfl
              have x2 := RowAt.cell hX (i := 2) rfl
              have x3 := RowAt.cell hX (i := 3) rfl
              have x4 := RowAt.cell hX (i := 4) rfl
              have HA := Lib.hid hA
              have HM := Lib.hid hM
              have HX := Lib.hid hX
              have HB := Lib.hid hB
              clear hA hM hX hB
              go_upto_region 37 with (go_at_call 8; refine (store_live b h m _ HA.out h0 h1 m0 m1 off v o0 o1).mono ?_; rintro e w2 ⟨rfl, hA2, hF2⟩; have hM2 := RowAt.but HM.out hF2 hne.symm; have hX2 := RowAt.but HX.out hF2 hxb; have hB2 := But.below HB.out hF2 hb HB.out.size)
              refine wp_name (Pr := fun W' => LnAt W' b (h) ((storeL m off v).1) ∧ RowAt W' bm (lrow (h) ((storeL m off v).1)) 39 ∧ RowAt W' bx #[.int .i64 k, .int .i64 n, .bool t, .int .u32 off, .int .u32 v] 41 ∧ Below W.heap.size W W') ⟨hA2, hM2, hX2, hB2⟩ ?_
              clear HA HM HX HB x0 x1 x2 x3 x4
              rintro W3 ⟨hA, hM, hX, hB⟩
              have x0 := RowAt.cell hX (i := 0) rfl
              have x1 := RowAt.cell hX (i := 1) rfl
              have x2 := RowAt.cell hX (i := 2) rfl
              have x3 := RowAt.cell hX (i := 3) rfl
              have x4 := RowAt.cell hX (i := 4) rfl
              have HA := Lib.hid hA
              have HM := Lib.hid hM
              have HX := Lib.hid hX
              have HB := Lib.hid hB
              clear hA hM hX hB
              clear hA2 hM2 hX2 hB2 hF2
              obtain ⟨ra0, ra1, rb0, rb1⟩ : (0 ≤ (h) ∧ (h) ≤ 4294967295 ∧ 0 ≤ ((storeL m off v).1) ∧ ((storeL m off v).1) ≤ 4294967295) := ⟨h0, h1, (storeL_range m0 m1 v0 v1).1, (storeL_range m0 m1 v0 v1).2⟩
              go_upto_region 5 with (first | (refine wpList_load_row_y rfl 39 (.tmp 4) rfl bm rfl 39 (lrow (h) ((storeL m off v).1)) (0, 0) _ HM.out Tryd.underlying39 rfl (info64 _ _) ?_) | (go_at_call 19; refine (alike_any b (h) ((storeL m off v).1) _ HA.out ra0 ra1 rb0 rb1 (HT.out.ext HB.out)).mono ?_; rintro e w2 ⟨rfl, hb2⟩; have hA2 := LnAt.ext HA.out hb2; have hM2 := RowAt.ext HM.out hb2; have hX2 := RowAt.ext HX.out hb2; have hB2 := below_then HB.out hb2; have HM2 := Lib.hid hM2))
              go_wp2_with fail
              go_roundw
              case measure => simp [intOf]; omega
              case rel => exact ⟨b, (h), ((storeL m off v).1), j + 1, by omega, rfl, by simp, ra0, ra1, rb0, rb1, LnAt.ext HA.out hb2, RowAt.ext HM.out hb2, hb, hne, below_then HB.out hb2⟩
            · have d3 : (k == 3) = false := beq_f k3
              clear k3
              by_cases k4 : k = 4
              · have d4 : (k == 4) = true := beq_t k4
                clear k4
                go_upto_region 29 with (go_at_call 17; refine (reset_live b h m _ HA.out).mono ?_; rintro e w2 ⟨rfl, hA2, hF2⟩; have hM2 := RowAt.but HM.out hF2 hne.symm; have hX2 := RowAt.but HX.out hF2 hxb; have hB2 := But.below HB.out hF2 hb HB.out.size)
                refine wp_name (Pr := fun W' => LnAt W' b (h) (0) ∧ RowAt W' bm (lrow (h) (m)) 39 ∧ RowAt W' bx #[.int .i64 k, .int .i64 n, .bool t, .int .u32 off, .int .u32 v] 41 ∧ Below W.heap.size W W') ⟨hA2, hM2, hX2, hB2⟩ ?_
                clear HA HM HX HB x0 x1 x2 x3 x4
                rintro W3 ⟨hA, hM, hX, hB⟩
                have x0 := RowAt.cell hX (i := 0) rfl
                have x1 := RowAt.cell hX (i := 1) rfl
                have x2 := RowAt.cell hX (i := 2) rfl
                have x3 := RowAt.cell hX (i := 3) rfl
                have x4 := RowAt.cell hX (i := 4) rfl
                have HA := Lib.hid hA
                have HM := Lib.hid hM
                have HX := Lib.hid hX
                have HB := Lib.hid hB
                clear hA hM hX hB
                clear hA2 hM2 hX2 hB2 hF2
                have HQ : Hid (RowAt W3 bm (((ll h m).map Value.bool).toArray) 39) := HM
                go_upto_region 37 with (refine wpList_store_part rfl 37 (.tmp 116) (.tmp 115) rfl bm 32 ((t32 (bitI 0)).map Value.bool) rfl rfl 39 ((ll h m).map Value.bool) HQ.out (info32' _) (by rw [row_size, List.length_map, t32_len]; decide) (bool_cells _) ?_; rw [mask_set])
                refine wp_name (Pr := fun W' => LnAt W' b (h) (0) ∧ RowAt W' bm (lrow (h) (0)) 39 ∧ RowAt W' bx #[.int .i64 k, .int .i64 n, .bool t, .int .u32 off, .int .u32 v] 41 ∧ Below W.heap.size W W') ⟨RowAt.setRow_other HA.out hne _, RowAt.setRow HM.out _, RowAt.setRow_other HX.out hxm _, below_setRow HB.out hbmW _⟩ ?_
                clear HQ HA HM HX HB x0 x1 x2 x3 x4
                rintro W3 ⟨hA, hM, hX, hB⟩
                have x0 := RowAt.cell hX (i := 0) rfl
                have x1 := RowAt.cell hX (i := 1) rfl
                have x2 := RowAt.cell hX (i := 2) rfl
                have x3 := RowAt.cell hX (i := 3) rfl
                have x4 := RowAt.cell hX (i := 4) rfl
                have HA := Lib.hid hA
                have HM := Lib.hid hM
                have HX := Lib.hid hX
                have HB := Lib.hid hB
                clear hA hM hX hB
                obtain ⟨ra0, ra1, rb0, rb1⟩ : (0 ≤ (h) ∧ (h) ≤ 4294967295 ∧ 0 ≤ (0 : Int) ∧ (0 : Int) ≤ 4294967295) := ⟨h0, h1, by decide, by decide⟩
                go_upto_region 5 with (first | (refine wpList_load_row_y rfl 39 (.tmp 4) rfl bm rfl 39 (lrow (h) (0 : Int)) (0, 0) _ HM.out Tryd.underlying39 rfl (info64 _ _) ?_) | (go_at_call 19; refine (alike_any b (h) (0 : Int) _ HA.out ra0 ra1 rb0 rb1 (HT.out.ext HB.out)).mono ?_; rintro e w2 ⟨rfl, hb2⟩; have hA2 := LnAt.ext HA.out hb2; have hM2 := RowAt.ext HM.out hb2; have hX2 := RowAt.ext HX.out hb2; have hB2 := below_then HB.out hb2; have HM2 := Lib.hid hM2))
                go_wp2_with fail
                go_roundw
                case measure => simp [intOf]; omega
                case rel => exact ⟨b, (h), (0 : Int), j + 1, by omega, rfl, by simp, ra0, ra1, rb0, rb1, LnAt.ext HA.out hb2, RowAt.ext HM.out hb2, hb, hne, below_then HB.out hb2⟩
              · have d4 : (k == 4) = false := beq_f k4
                clear k4
                by_cases k5 : k = 5
                · have d5 : (k == 5) = true := beq_t k5
                  clear k5
                  go_upto_region 32 with (go_at_call 18; refine (copy_live b h m _ HA.out).mono ?_; rintro e w2 ⟨b', rfl, hb', hN, hb2⟩; have hA2 := LnAt.ext HA.out hb2; have hM2 := RowAt.ext HM.out hb2; have hX2 := RowAt.ext HX.out hb2; have hB2 := below_then HB.out hb2)
                  have nb : b ≠ b' := by have := RowAt.lt HA.out; omega
                  have nm : bm ≠ b' := by have := RowAt.lt HM.out; omega
                  have nW : W.heap.size ≤ b' := by have := HB.out.size; omega
                  have HA0 := Lib.hid hA2
                  have HM := Lib.hid hM2
                  have HB := Lib.hid hB2
                  have HN := Lib.hid hN
                  clear HA HX x0 x1 x2 x3 x4 hA2 hM2 hX2 hB2 hN hb2 hb'
                  go_upto_region 34 with (first | (refine wpList_load_row_y rfl 39 (.tmp 4) rfl bm rfl 39 (lrow (h) (m)) (0, 0) _ HM.out Tryd.underlying39 rfl (info64 _ _) ?_) | (go_at_call 19; refine (alike_any b' h m _ HN.out h0 h1 m0 m1 (HT.out.ext HB.out)).mono ?_; rintro e w2 ⟨rfl, hb2⟩; have hA2 := LnAt.ext HA0.out hb2; have hM2 := RowAt.ext HM.out hb2; have hN2 := LnAt.ext HN.out hb2; have hB2 := below_then HB.out hb2))
                  have HA0 := Lib.hid hA2
                  have HM := Lib.hid hM2
                  have HB := Lib.hid hB2
                  have HN := Lib.hid hN2
                  clear hA2 hM2 hB2 hN2 hb2
                  go_upto_region 35 with (first | (refine wpList_load_row rfl 39 (.tmp 4) rfl bm rfl 39 (lrow h m) (0, 0) _ HM.out Tryd.underlying39 rfl (info64 _ _) ?_) | (go_at_call 20; refine (lword_any h m _ h0 h1 m0 m1).mono ?_; rintro e w2 ⟨rfl, hb2⟩; have hA1 := LnAt.ext HA0.out hb2; have hM1 := RowAt.ext HM.out hb2; have hN1 := LnAt.ext HN.out hb2; have hB1 := below_then HB.out hb2) | (go_at_call 7; refine (all_live b h m _ hA1 _).mono ?_; rintro e w2 ⟨rfl, hA2, hF2⟩; have hM2 := RowAt.but hM1 hF2 hne.symm; have hN2 := LnAt.but hN1 hF2 nb.symm; have hB2 := But.below hB1 hF2 hb hB1.size))
                  have HA0 := Lib.hid hA2
                  have HM := Lib.hid hM2
                  have HB := Lib.hid hB2
                  have HN := Lib.hid hN2
                  clear hA2 hM2 hB2 hN2 hF2 hA1 hM1 hN1 hB1 hb2
                  go_upto_region 36 with (go_at_call 17; refine (reset_live b _ _ _ HA0.out).mono ?_; rintro e w2 ⟨rfl, hA2, hF2⟩; have hM2 := RowAt.but HM.out hF2 hne.symm; have hN2 := LnAt.but HN.out hF2 nb.symm; have hB2 := But.below HB.out hF2 hb HB.out.size)
                  have HA := Lib.hid hN2
                  have HM := Lib.hid hM2
                  have HB := Lib.hid hB2
                  clear hA2 hM2 hB2 hN2 hF2 HA0 HN
                  obtain ⟨ra0, ra1, rb0, rb1⟩ : (0 ≤ (h) ∧ (h) ≤ 4294967295 ∧ 0 ≤ (m) ∧ (m) ≤ 4294967295) := ⟨h0, h1, m0, m1⟩
                  go_upto_region 5 with (first | (refine wpList_load_row_y rfl 39 (.tmp 4) rfl bm rfl 39 (lrow (h) (m)) (0, 0) _ HM.out Tryd.underlying39 rfl (info64 _ _) ?_) | (go_at_call 19; refine (alike_any b' (h) (m) _ HA.out ra0 ra1 rb0 rb1 (HT.out.ext HB.out)).mono ?_; rintro e w2 ⟨rfl, hb2⟩; have hA2 := LnAt.ext HA.out hb2; have hM2 := RowAt.ext HM.out hb2; have hB2 := below_then HB.out hb2; have HM2 := Lib.hid hM2))
                  go_wp2_with fail
                  go_roundw
                  case measure => simp [intOf]; omega
                  case rel => exact ⟨b', (h), (m), j + 1, by omega, rfl, by simp, ra0, ra1, rb0, rb1, LnAt.ext HA.out hb2, RowAt.ext HM.out hb2, nW, nm.symm, below_then HB.out hb2⟩
                · have d5 : (k == 5) = false := beq_f k5
                  clear k5
                  obtain ⟨ra0, ra1, rb0, rb1⟩ : (0 ≤ (h) ∧ (h) ≤ 4294967295 ∧ 0 ≤ (m) ∧ (m) ≤ 4294967295) := ⟨h0, h1, m0, m1⟩
                  go_upto_region 5 with (first | (refine wpList_load_row_y rfl 39 (.tmp 4) rfl bm rfl 39 (lrow (h) (m)) (0, 0) _ HM.out Tryd.underlying39 rfl (info64 _ _) ?_) | (go_at_call 19; refine (alike_any b (h) (m) _ HA.out ra0 ra1 rb0 rb1 (HT.out.ext HB.out)).mono ?_; rintro e w2 ⟨rfl, hb2⟩; have hA2 := LnAt.ext HA.out hb2; have hM2 := RowAt.ext HM.out hb2; have hX2 := RowAt.ext HX.out hb2; have hB2 := below_then HB.out hb2; have HM2 := Lib.hid hM2))
                  go_wp2_with fail
                  go_roundw
                  case measure => simp [intOf]; omega
                  case rel => exact ⟨b, (h), (m), j + 1, by omega, rfl, by simp, ra0, ra1, rb0, rb1, LnAt.ext HA.out hb2, RowAt.ext HM.out hb2, hb, hne, below_then HB.out hb2⟩
    · have hend : j < len → ¬ j < 60 := fun h h2 => hlt ⟨h, h2⟩
      have HB := Lib.hid hB
      clear hA hM hB
      by_cases h1 : j < len
      · have g60 : decide ((j : Int) < 60) = false := by have := hend h1; simp; omega
        go_wp2_with fail
        refine (known04 _ (HT.out.ext HB.out)).mono ?_
        rintro e w2 ⟨rfl, hb2⟩
        go_wp2_with fail
        go_ret
        exact ⟨rfl, below_then HB.out hb2⟩
      · have gl : decide ((j : Int) < (len : Int)) = false := by simp; omega
        go_wp2_with fail
        refine (known04 _ (HT.out.ext HB.out)).mono ?_
        rintro e w2 ⟨rfl, hb2⟩
        go_wp2_with fail
        go_ret
        exact ⟨rfl, below_then HB.out hb2⟩
end Go.Proofs.YtaihebdjhbnhoaaDoor
