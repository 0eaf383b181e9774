/- Whatever a clint is asked. -/
import Derived.Test.YtaihebdjhbnhoaaClM
import Derived.Test.YtaihebdjhbnhoaaArgs
namespace Go.Proofs.Ytaihebdjhbnhoaa
open Go.RowKit
set_option linter.unusedVariables false
set_option linter.unusedSimpArgs false
theorem list4 {α : Type} {l : List α} (h : l.length = 4) : ∃ a b c d, l = [a, b, c, d] := by
  match l, h with
  | [a, b, c, d], _ => exact ⟨a, b, c, d, rfl⟩
theorem cell_spot {W : World} {a : Addr} {v : Value} (h : W.cell? a = some v) : a.spot = none := by
  unfold World.cell? at h
  cases hs : a.spot with
  | none => rfl
  | some x =>
    rw [hs] at h
    split at h <;> simp at h
theorem add_plain (b o i j : Nat) : (⟨b, o, none⟩ : Addr).add (i * 4 + j) = ⟨b, o + i * 4 + j, none⟩ := by
  unfold Addr.add
  split
  · rename_i h
    have h1 : i = 0 := by omega
    have h2 : j = 0 := by omega
    subst h1 h2
    rfl
  · rw [Nat.add_assoc]
def actSh : List Sh := [.int .i64, .int .u64, .int .u32, .int .u32]
set_option maxRecDepth 10000 in
/-- What one element of a slice of calls is. -/
theorem act_at {W : World} {a : Option Addr} {len cap : Nat} (h : Fit1 W (.slice actSh) (.slice a len cap)) {i : Nat} (hi : i < len) :
    ∃ (b o : Nat) (k n off v : Int), a = some ⟨b, o, none⟩ ∧ b < W.heap.size ∧ 0 ≤ n ∧ n ≤ 18446744073709551615 ∧ 0 ≤ off ∧ off ≤ 4294967295 ∧ 0 ≤ v ∧ v ≤ 4294967295 ∧
      W.cell? ⟨b, o + i * 4, none⟩ = some (.int .i64 k) ∧ W.cell? ⟨b, o + i * 4 + 1, none⟩ = some (.int .u64 n) ∧ W.cell? ⟨b, o + i * 4 + 2, none⟩ = some (.int .u32 off) ∧ W.cell? ⟨b, o + i * 4 + 3, none⟩ = some (.int .u32 v) := by
  unfold Fit1 at h
  rcases h with h | ⟨a', len', cap', h1, -, -, h4⟩
  · simp only [Value.slice.injEq] at h
    omega
  · simp only [Value.slice.injEq] at h1
    obtain ⟨e1, e2, e3⟩ := h1
    subst e1
    rw [← e2] at h4
    clear e2 e3
    obtain ⟨cs, hc, hf⟩ := h4 i hi
    have hl := hf.length
    obtain ⟨c0, c1, c2, c3, rfl⟩ := list4 hl
    simp only [actSh, Fits, Fit1, and_true] at hf
    obtain ⟨⟨k, rfl, hk⟩, ⟨n, rfl, hn⟩, ⟨off, rfl, ho⟩, ⟨v, rfl, hv⟩⟩ := hf
    have q0 := hc 0 (by simp [actSh])
    have q1 := hc 1 (by simp [actSh])
    have q2 := hc 2 (by simp [actSh])
    have q3 := hc 3 (by simp [actSh])
    obtain ⟨bb, oo, sp⟩ := a'
    have hsp : sp = none := by
      obtain ⟨cs0, hc0, hf0⟩ := h4 0 (by omega)
      have hl0 := hf0.length
      have z := hc0 0 (by show 0 < 4; omega)
      rw [List.getElem?_eq_getElem (by rw [hl0]; show 0 < 4; omega)] at z
      have z2 : (⟨bb, oo, sp⟩ : Addr).add (0 * actSh.length + 0) = ⟨bb, oo, sp⟩ := rfl
      rw [z2] at z
      exact cell_spot z
    subst hsp
    have e : ∀ j, (⟨bb, oo, none⟩ : Addr).add (i * actSh.length + j) = ⟨bb, oo + i * 4 + j, none⟩ := fun j => add_plain bb oo i j
    rw [e] at q0 q1 q2 q3
    have hlt := World.block_lt_of_cell? W _ q0
    have hn' := bounds_u64 hn
    have ho' := bounds_u32 ho
    have hv' := bounds_u32 hv
    exact ⟨bb, oo, k, n, off, v, rfl, hlt, hn'.1, hn'.2, ho'.1, ho'.2, hv'.1, hv'.2, q0, q1, q2, q3⟩

/-- A whole row is loaded behind a guard that says yes. -/
theorem wpList_load_row_y {P : Program} {ops : Array Oper} {rest : List Oper} {o : Oper} {a : Act} {w : World} {Q : Exit → Act → World → Prop} (hw : Region.wanted o (yielded ops a.tmps) = true) (ty : TypeId) (x : Operand) (ho : o.op = .load ty x)
    (g : Nat) (hx : a.eval x = .pointer (some ⟨g, 0, none⟩)) (t : TypeId) (cs : Array Value) (fr : Nat × Nat) (d : TypeDesc) (hg : w.heap[g]? = some (.cells cs t fr))
    (hu : P.underlying ty = some d) (hd : (match d with | .struct _ | .array _ _ => true | _ => false) = true) (hi : (P.info? ty).map (·.size) = some cs.size)
    (h : wpList P ops Q rest (a.put o.dst (.agg cs)) w) : wpList P ops Q (o :: rest) a w :=
  BigFrame.wpList_want hw fun _ hK => wp_load_row ty x ho g hx t cs fr d hg hu hd hi (hK _ _ h)
def Cl.tk (c : Cl) (n : Int) : Cl := { c with time := addI c.time n }
def Cl.rs (c : Cl) : Cl := { c with cmp := fun _ => 18446744073709551615, soft := fun _ => 0 }
theorem rs_ok {c : Cl} (ok : c.ok) : c.rs.ok := by
  refine ⟨ok.t0, ok.t1, ?_, ?_, ?_, ?_, ok.n1⟩ <;> intro i <;> simp [Cl.rs]
theorem ref_rs (c : Cl) : rcells c.time (fun _ => 4294967295) (fun _ => 4294967295) (fun _ => 0) c.n = c.rs.ref := rfl
theorem rreset_is (c : Cl) (w : World) : Calls Try.prog 40 #[.agg c.ref] w fun e w' => e = .returned (.agg c.rs.ref) ∧ Below w.heap.size w w' := rreset_any c.time _ _ c.soft c.n w
set_option maxHeartbeats 8000000 in
set_option maxRecDepth 100000 in
theorem ClintPlays_walk (hs : Int) (a : Option Addr) (len cap : Nat) (W : World) (_ : -9223372036854775808 ≤ hs) (_ : hs ≤ 9223372036854775807) (hf : Fit1 W (.slice actSh) (.slice a len cap)) :
    Calls Try.prog 9 #[.int .i64 hs, .slice a len cap] W fun e w' => e = .returned (.bool true) ∧ Below W.heap.size W w' := by
  have HFIT := Lib.hid (fun i (hi : i < len) => act_at hf hi)
  clear hf
  by_cases hg : 1 ≤ hs ∧ hs ≤ 8
  · obtain ⟨N, rfl⟩ : ∃ N : Nat, hs = (N : Int) := ⟨hs.toNat, by omega⟩
    have t1 : decide ((N : Int) < 1) = false := dec_f (by omega)
    have t2 : decide (8 < (N : Int)) = false := dec_f (by omega)
    have t1' : decide (N < 1) = false := dec_f (by omega)
    have t2' : decide (8 < N) = false := dec_f (by omega)
    have hN1 : 1 ≤ N := by omega
    have hN8 : N ≤ 8 := by omega
    go_enter Try.func9, Try.ntmps9
    go_upto_region 6 with (go_at_call 26; refine (new_good N _ hN1 hN8).mono ?_; rintro e w1 ⟨b, rfl, hb, hA, hB⟩)
    have HA := Lib.hid hA
    have HB := Lib.hid hB
    clear hA hB
    go_upto_region 7 with (first | (go_at_call 34; refine (rnew_any N _).mono ?_; rintro e w2 ⟨rfl, hb2⟩; obtain ⟨bm, hbm⟩ : ∃ bm, w2.heap.size = bm := ⟨_, rfl⟩; have hA2 := ClAt.ext HA.out hb2; have hB2 := below_then HB.out hb2; have hN : RowAt (w2.alloc (.cells rzero 57)) bm rzero 57 := (by rw [← hbm]; exact RowAt.new _ _ _); have HN := Lib.hid hN; clear hN) | (refine wpList_store_row rfl 57 (.tmp 7) (.tmp 44) rfl bm (clNew N).ref rfl rfl 57 _ HN.out (by kernel_rfl) rfl (ref_one _) ?_))
    have hne : b ≠ bm := by have := RowAt.lt hA2; omega
    have hbmW : W.heap.size ≤ bm := by have := hB2.size; omega
    refine wp_name (Pr := fun W' => ClAt W' b (clNew N) ∧ RowAt W' bm (clNew N).ref 57 ∧ Below W.heap.size W W') ⟨RowAt.setRow_other (RowAt.alloc hA2 _) hne _, RowAt.setRow HN.out _, below_setRow (below_new hB2 _) hbmW _⟩ ?_
    clear hA2 hB2 HN hb2 hbm HA HB t1 t2 t1' t2'
    have ok0 : (clNew N).ok := clNew_ok hN8
    rintro W2 ⟨hA, hM, hB⟩
    go_wp2_with fail
    go_loopw [5, 8] (fun r i wr => ∃ (b : Nat) (c : Cl) (j : Nat), j ≤ 80 ∧ r = .pointer (some ⟨b, 0, none⟩) ∧ i = .int .i64 j ∧ c.ok ∧ ClAt wr b c ∧ RowAt wr bm c.ref 57 ∧ W.heap.size ≤ b ∧ b ≠ bm ∧ Below W.heap.size W wr) (fun _ i _ => 80 - (intOf i).toNat)
    case atStart => exact ⟨b, _, 0, by omega, rfl, rfl, ok0, hA, hM, hb, hne, hB⟩
    case round =>
      clear hA hM hB ok0 hb hne
      obtain ⟨b, c, j, hj, rfl, rfl, ok, hA, hM, hb, hne, hB⟩ := hrel
      by_cases hlt : j < len ∧ j < 80
      · obtain ⟨hl1, hl2⟩ := hlt
        obtain ⟨ba, oa, k, n, off, v, rfl, hba, n0, n1, o0, o1, v0, v1, q0, q1, q2, q3⟩ := HFIT.out j hl1
        have qa0 := (hB.cell (p := ⟨ba, oa + j * 4, none⟩) hba).trans q0
        have qa1 := (hB.cell (p := ⟨ba, oa + j * 4 + 1, none⟩) hba).trans q1
        have qa2 := (hB.cell (p := ⟨ba, oa + j * 4 + 2, none⟩) hba).trans q2
        have qa3 := (hB.cell (p := ⟨ba, oa + j * 4 + 3, none⟩) hba).trans q3
        obtain ⟨bx, hbx⟩ : ∃ bx, wr.heap.size = bx := ⟨_, rfl⟩
        have hxb : bx ≠ b := by have := RowAt.lt hA; omega
        have hxm : bx ≠ bm := by have := RowAt.lt hM; omega
        have hA' := RowAt.alloc hA (.cells #[.int .i64 k, .int .u64 n, .int .u32 off, .int .u32 v] 60)
        have hM' := RowAt.alloc hM (.cells #[.int .i64 k, .int .u64 n, .int .u32 off, .int .u32 v] 60)
        have hB' := below_new hB (.cells #[.int .i64 k, .int .u64 n, .int .u32 off, .int .u32 v] 60)
        have hX' : RowAt (wr.alloc (.cells #[.int .i64 k, .int .u64 n, .int .u32 off, .int .u32 v] 60)) bx #[.int .i64 k, .int .u64 n, .int .u32 off, .int .u32 v] 60 := by rw [← hbx]; exact RowAt.new _ _ _
        have HA := Lib.hid hA'
        have HM := Lib.hid hM'
        have HX := Lib.hid hX'
        have HB := Lib.hid hB'
        have HFIT2 := HFIT
        clear q0 q1 q2 q3 hA hM hB hA' hM' hB' hX'
        have g80 : decide ((j : Int) < 80) = true := by simp; omega
        go_upto_region 11 with (fail)
        have x0 : True := trivial
        have x1 : True := trivial
        have x2 : True := trivial
        have x3 : True := trivial
        refine wp_name (Pr := fun W' => ClAt W' b (c) ∧ RowAt W' bm (c).ref 57 ∧ RowAt W' bx #[.int .i64 k, .int .u64 n, .int .u32 off, .int .u32 v] 60 ∧ Below W.heap.size W W') ⟨HA.out, HM.out, HX.out, HB.out⟩ ?_
        clear HA HM HX HB x0 x1 x2 x3
        rintro W3 ⟨hA, hM, hX, hB⟩
        have x0 := RowAt.cell hX (i := 0) rfl
        have x1 := RowAt.cell hX (i := 1) rfl
        have x2 := RowAt.cell hX (i := 2) rfl
        have x3 := RowAt.cell hX (i := 3) rfl
        have HA := Lib.hid hA
        have HM := Lib.hid hM
        have HX := Lib.hid hX
        have HB := Lib.hid hB
        clear hA hM hX hB
        clear qa0 qa1 qa2 qa3 hbx
        by_cases k0 : k = 0
        · have d0 : (k == 0) = true := beq_t k0
          clear k0
          go_upto_region 14 with (go_at_call 29; refine (tick_live b c _ HA.out ok n n0 n1).mono ?_; rintro e w2 ⟨rfl, hA2, hF2⟩; have hM2 := RowAt.but HM.out hF2 hne.symm; have hX2 := RowAt.but HX.out hF2 hxb; have hB2 := But.below HB.out hF2 hb HB.out.size)
          refine wp_name (Pr := fun W' => ClAt W' b (c.tk n) ∧ RowAt W' bm (c).ref 57 ∧ RowAt W' bx #[.int .i64 k, .int .u64 n, .int .u32 off, .int .u32 v] 60 ∧ Below W.heap.size W W') ⟨hA2, hM2, hX2, hB2⟩ ?_
          clear HA HM HX HB x0 x1 x2 x3
          rintro W3 ⟨hA, hM, hX, hB⟩
          have x0 := RowAt.cell hX (i := 0) rfl
          have x1 := RowAt.cell hX (i := 1) rfl
          have x2 := RowAt.cell hX (i := 2) rfl
          have x3 := RowAt.cell hX (i := 3) rfl
          have HA := Lib.hid hA
          have HM := Lib.hid hM
          have HX := Lib.hid hX
          have HB := Lib.hid hB
          clear hA hM hX hB
          clear hA2 hM2 hX2 hB2 hF2
          go_upto_region 35 with (first | (refine wpList_load_row rfl 57 (.tmp 7) rfl bm rfl 57 (c).ref (0, 0) _ HM.out Try.underlying57 rfl (by kernel_rfl) ?_) | (go_at_call 35; refine (rtick_any c ok n _ n0 n1).mono ?_; rintro e w2 ⟨rfl, hb2⟩; have hA2 := ClAt.ext HA.out hb2; have hM2 := RowAt.ext HM.out hb2; have hX2 := RowAt.ext HX.out hb2; have hB2 := below_then HB.out hb2; have HM2 := Lib.hid hM2) | (refine wpList_store_row rfl 57 (.tmp 7) (.tmp 70) rfl bm (c.tk n).ref rfl rfl 57 _ HM2.out (by kernel_rfl) rfl (ref_one _) ?_))
          refine wp_name (Pr := fun W' => ClAt W' b (c.tk n) ∧ RowAt W' bm (c.tk n).ref 57 ∧ RowAt W' bx #[.int .i64 k, .int .u64 n, .int .u32 off, .int .u32 v] 60 ∧ Below W.heap.size W W') ⟨RowAt.setRow_other hA2 hne _, RowAt.setRow hM2 _, RowAt.setRow_other hX2 hxm _, below_setRow hB2 hbmW _⟩ ?_
          clear HA HM HX HB x0 x1 x2 x3
          rintro W3 ⟨hA, hM, hX, hB⟩
          have x0 := RowAt.cell hX (i := 0) rfl
          have x1 := RowAt.cell hX (i := 1) rfl
          have x2 := RowAt.cell hX (i := 2) rfl
          have x3 := RowAt.cell hX (i := 3) rfl
          have HA := Lib.hid hA
          have HM := Lib.hid hM
          have HX := Lib.hid hX
          have HB := Lib.hid hB
          clear hA hM hX hB
          clear hA2 hM2 hX2 hB2 hb2 HM2
          have hok2 : (c.tk n).ok := tick_ok ok n0 n1
          go_upto_region 9 with (first | (refine wpList_load_row_y rfl 57 (.tmp 7) rfl bm rfl 57 (c.tk n).ref (0, 0) _ HM.out Try.underlying57 rfl (by kernel_rfl) ?_) | (go_at_call 41; refine (alike_any b (c.tk n) _ HA.out hok2).mono ?_; rintro e w2 ⟨rfl, hb2⟩; have hA2 := ClAt.ext HA.out hb2; have hM2 := RowAt.ext HM.out hb2; have hX2 := RowAt.ext HX.out hb2; have hB2 := below_then HB.out hb2; have HM2 := Lib.hid hM2))
          go_wp2_with fail
          go_roundw
          case measure => simp [intOf]; omega
          case rel => exact ⟨b, c.tk n, j + 1, by omega, rfl, by simp, hok2, ClAt.ext HA.out hb2, RowAt.ext HM.out hb2, hb, hne, below_then HB.out hb2⟩
        · have d0 : (k == 0) = false := beq_f k0
          clear k0
          by_cases k1 : k = 1
          · have d1 : (k == 1) = true := beq_t k1
            clear k1
            go_upto_region 17 with (first | (refine wpList_load_row rfl 57 (.tmp 7) rfl bm rfl 57 (c).ref (0, 0) _ HM.out Try.underlying57 rfl (by kernel_rfl) ?_) | (go_at_call 36; refine (rload_any c ok off _ o0 o1).mono ?_; rintro e w2 ⟨rfl, hb2⟩; have hA2 := ClAt.ext HA.out hb2; have hM2 := RowAt.ext HM.out hb2; have hX2 := RowAt.ext HX.out hb2; have hB2 := below_then HB.out hb2; have HM2 := Lib.hid hM2))
            refine wp_name (Pr := fun W' => ClAt W' b (c) ∧ RowAt W' bm (c).ref 57 ∧ RowAt W' bx #[.int .i64 k, .int .u64 n, .int .u32 off, .int .u32 v] 60 ∧ Below W.heap.size W W') ⟨hA2, hM2, hX2, hB2⟩ ?_
            clear HA HM HX HB x0 x1 x2 x3
            rintro W3 ⟨hA, hM, hX, hB⟩
            have x0 := RowAt.cell hX (i := 0) rfl
            have x1 := RowAt.cell hX (i := 1) rfl
            have x2 := RowAt.cell hX (i := 2) rfl
            have x3 := RowAt.cell hX (i := 3) rfl
            have HA := Lib.hid hA
            have HM := Lib.hid hM
            have HX := Lib.hid hX
            have HB := Lib.hid hB
            clear hA hM hX hB
            clear hA2 hM2 hX2 hB2 hb2 HM2
            go_upto_region 18 with (go_at_call 37; refine (load_live b c _ HA.out ok off o0).mono ?_; rintro e w2 ⟨rfl, hb2⟩; have hA2 := ClAt.ext HA.out hb2; have hM2 := RowAt.ext HM.out hb2; have hX2 := RowAt.ext HX.out hb2; have hB2 := below_then HB.out hb2; have HM2 := Lib.hid hM2)
            refine wp_name (Pr := fun W' => ClAt W' b (c) ∧ RowAt W' bm (c).ref 57 ∧ RowAt W' bx #[.int .i64 k, .int .u64 n, .int .u32 off, .int .u32 v] 60 ∧ Below W.heap.size W W') ⟨hA2, hM2, hX2, hB2⟩ ?_
            clear HA HM HX HB x0 x1 x2 x3
            rintro W3 ⟨hA, hM, hX, hB⟩
            have x0 := RowAt.cell hX (i := 0) rfl
            have x1 := RowAt.cell hX (i := 1) rfl
            have x2 := RowAt.cell hX (i := 2) rfl
            have x3 := RowAt.cell hX (i := 3) rfl
            have HA := Lib.hid hA
            have HM := Lib.hid hM
            have HX := Lib.hid hX
            have HB := Lib.hid hB
            clear hA hM hX hB
            clear hA2 hM2 hX2 hB2 hb2 HM2
            have hok2 : (c).ok := ok
            go_upto_region 9 with (first | (refine wpList_load_row_y rfl 57 (.tmp 7) rfl bm rfl 57 (c).ref (0, 0) _ HM.out Try.underlying57 rfl (by kernel_rfl) ?_) | (go_at_call 41; refine (alike_any b (c) _ HA.out hok2).mono ?_; rintro e w2 ⟨rfl, hb2⟩; have hA2 := ClAt.ext HA.out hb2; have hM2 := RowAt.ext HM.out hb2; have hX2 := RowAt.ext HX.out hb2; have hB2 := below_then HB.out hb2; have HM2 := Lib.hid hM2))
            go_wp2_with fail
            go_roundw
            case measure => simp [intOf]; omega
            case rel => exact ⟨b, c, j + 1, by omega, rfl, by simp, hok2, ClAt.ext HA.out hb2, RowAt.ext HM.out hb2, hb, hne, below_then HB.out hb2⟩
          · have d1 : (k == 1) = false := beq_f k1
            clear k1
            by_cases k2 : k = 2
            · have d2 : (k == 2) = true := beq_t k2
              clear k2
              go_upto_region 22 with (first | (refine wpList_load_row rfl 57 (.tmp 7) rfl bm rfl 57 (c).ref (0, 0) _ HM.out Try.underlying57 rfl (by kernel_rfl) ?_) | (go_at_call 38; refine (rstore_any c ok off v _ o0 o1 v0 v1).mono ?_; rintro e w2 ⟨rfl, hb2⟩; have hA2 := ClAt.ext HA.out hb2; have hM2 := RowAt.ext HM.out hb2; have hX2 := RowAt.ext HX.out hb2; have hB2 := below_then HB.out hb2; have HM2 := Lib.hid hM2; obtain ⟨bn, hbn⟩ : ∃ bn, w2.heap.size = bn := ⟨_, rfl⟩; have hN : RowAt (w2.alloc (.cells rzero 57)) bn rzero 57 := (by rw [← hbn]; exact RowAt.new _ _ _); have HN := Lib.hid hN; clear hN) | (refine wpList_store_row rfl 57 (.tmp 14) (.tmp 104) rfl bn ((storeI c off v).1).ref rfl rfl 57 _ HN.out (by kernel_rfl) rfl (ref_one _) ?_))
              have nb : b ≠ bn := by have := RowAt.lt hA2; omega
              have nm : bm ≠ bn := by have := RowAt.lt hM2; omega
              have nx : bx ≠ bn := by have := RowAt.lt hX2; omega
              have nW : W.heap.size ≤ bn := by have := hB2.size; omega
              refine wp_name (Pr := fun W' => ClAt W' b (c) ∧ RowAt W' bm (c).ref 57 ∧ RowAt W' bx #[.int .i64 k, .int .u64 n, .int .u32 off, .int .u32 v] 60 ∧ RowAt W' bn (storeI c off v).1.ref 57 ∧ Below W.heap.size W W') ⟨RowAt.setRow_other (RowAt.alloc hA2 _) nb _, RowAt.setRow_other (RowAt.alloc hM2 _) nm _, RowAt.setRow_other (RowAt.alloc hX2 _) nx _, RowAt.setRow HN.out _, below_setRow (below_new hB2 _) nW _⟩ ?_
              clear HN HA HM HX HB x0 x1 x2 x3
              rintro W3 ⟨hA, hM, hX, hN, hB⟩
              have x0 := RowAt.cell hX (i := 0) rfl
              have x1 := RowAt.cell hX (i := 1) rfl
              have x2 := RowAt.cell hX (i := 2) rfl
              have x3 := RowAt.cell hX (i := 3) rfl
              have HN := Lib.hid hN
              have HA := Lib.hid hA
              have HM := Lib.hid hM
              have HX := Lib.hid hX
              have HB := Lib.hid hB
              clear hN hA hM hX hB
              clear hA2 hM2 hX2 hB2 hb2 HM2 hbn
              go_upto_region 23 with (first | (refine wpList_load_row rfl 57 (.tmp 14) rfl bn rfl 57 (storeI c off v).1.ref (0, 0) _ HN.out Try.underlying57 rfl (by kernel_rfl) ?_) | (refine wpList_store_row rfl 57 (.tmp 7) (.tmp 106) rfl bm ((storeI c off v).1).ref rfl rfl 57 _ HM.out (by kernel_rfl) rfl (ref_one _) ?_))
              refine wp_name (Pr := fun W' => ClAt W' b (c) ∧ RowAt W' bm ((storeI c off v).1).ref 57 ∧ RowAt W' bx #[.int .i64 k, .int .u64 n, .int .u32 off, .int .u32 v] 60 ∧ Below W.heap.size W W') ⟨RowAt.setRow_other HA.out hne _, RowAt.setRow HM.out _, RowAt.setRow_other HX.out hxm _, below_setRow HB.out hbmW _⟩ ?_
              clear HN HA HM HX HB x0 x1 x2 x3
              rintro W3 ⟨hA, hM, hX, hB⟩
              have x0 := RowAt.cell hX (i := 0) rfl
              have x1 := RowAt.cell hX (i := 1) rfl
              have x2 := RowAt.cell hX (i := 2) rfl
              have x3 := RowAt.cell hX (i := 3) rfl
              have HA := Lib.hid hA
              have HM := Lib.hid hM
              have HX := Lib.hid hX
              have HB := Lib.hid hB
              clear hA hM hX hB
              go_upto_region 35 with (go_at_call 27; refine (store_live b c _ HA.out ok off v o0 v0 v1).mono ?_; rintro e w2 ⟨rfl, hA2, hF2⟩; have hM2 := RowAt.but HM.out hF2 hne.symm; have hX2 := RowAt.but HX.out hF2 hxb; have hB2 := But.below HB.out hF2 hb HB.out.size)
              refine wp_name (Pr := fun W' => ClAt W' b ((storeI c off v).1) ∧ RowAt W' bm ((storeI c off v).1).ref 57 ∧ RowAt W' bx #[.int .i64 k, .int .u64 n, .int .u32 off, .int .u32 v] 60 ∧ Below W.heap.size W W') ⟨hA2, hM2, hX2, hB2⟩ ?_
              clear HA HM HX HB x0 x1 x2 x3
              rintro W3 ⟨hA, hM, hX, hB⟩
              have x0 := RowAt.cell hX (i := 0) rfl
              have x1 := RowAt.cell hX (i := 1) rfl
              have x2 := RowAt.cell hX (i := 2) rfl
              have x3 := RowAt.cell hX (i := 3) rfl
              have HA := Lib.hid hA
              have HM := Lib.hid hM
              have HX := Lib.hid hX
              have HB := Lib.hid hB
              clear hA hM hX hB
              clear hA2 hM2 hX2 hB2 hF2
              have hok2 : ((storeI c off v).1).ok := storeI_ok ok off v0 v1
              go_upto_region 9 with (first | (refine wpList_load_row_y rfl 57 (.tmp 7) rfl bm rfl 57 ((storeI c off v).1).ref (0, 0) _ HM.out Try.underlying57 rfl (by kernel_rfl) ?_) | (go_at_call 41; refine (alike_any b ((storeI c off v).1) _ HA.out hok2).mono ?_; rintro e w2 ⟨rfl, hb2⟩; have hA2 := ClAt.ext HA.out hb2; have hM2 := RowAt.ext HM.out hb2; have hX2 := RowAt.ext HX.out hb2; have hB2 := below_then HB.out hb2; have HM2 := Lib.hid hM2))
              go_wp2_with fail
              go_roundw
              case measure => simp [intOf]; omega
              case rel => exact ⟨b, (storeI c off v).1, j + 1, by omega, rfl, by simp, hok2, ClAt.ext HA.out hb2, RowAt.ext HM.out hb2, hb, hne, below_then HB.out hb2⟩
            · have d2 : (k == 2) = false := beq_f k2
              clear k2
              by_cases k3 : k = 3
              · have d3 : (k == 3) = true := beq_t k3
                clear k3
                go_upto_region 27 with (go_at_call 39; refine (reset_live b c _ HA.out).mono ?_; rintro e w2 ⟨rfl, hA2, hF2⟩; have hM2 := RowAt.but HM.out hF2 hne.symm; have hX2 := RowAt.but HX.out hF2 hxb; have hB2 := But.below HB.out hF2 hb HB.out.size)
                refine wp_name (Pr := fun W' => ClAt W' b (c.rs) ∧ RowAt W' bm (c).ref 57 ∧ RowAt W' bx #[.int .i64 k, .int .u64 n, .int .u32 off, .int .u32 v] 60 ∧ Below W.heap.size W W') ⟨hA2, hM2, hX2, hB2⟩ ?_
                clear HA HM HX HB x0 x1 x2 x3
                rintro W3 ⟨hA, hM, hX, hB⟩
                have x0 := RowAt.cell hX (i := 0) rfl
                have x1 := RowAt.cell hX (i := 1) rfl
                have x2 := RowAt.cell hX (i := 2) rfl
                have x3 := RowAt.cell hX (i := 3) rfl
                have HA := Lib.hid hA
                have HM := Lib.hid hM
                have HX := Lib.hid hX
                have HB := Lib.hid hB
                clear hA hM hX hB
                clear hA2 hM2 hX2 hB2 hF2
                go_upto_region 35 with (first | (refine wpList_load_row rfl 57 (.tmp 7) rfl bm rfl 57 (c).ref (0, 0) _ HM.out Try.underlying57 rfl (by kernel_rfl) ?_) | (go_at_call 40; refine (rreset_is c _).mono ?_; rintro e w2 ⟨rfl, hb2⟩; have hA2 := ClAt.ext HA.out hb2; have hM2 := RowAt.ext HM.out hb2; have hX2 := RowAt.ext HX.out hb2; have hB2 := below_then HB.out hb2; have HM2 := Lib.hid hM2) | (refine wpList_store_row rfl 57 (.tmp 7) (.tmp 120) rfl bm (c.rs).ref rfl rfl 57 _ HM2.out (by kernel_rfl) rfl (ref_one _) ?_))
                refine wp_name (Pr := fun W' => ClAt W' b (c.rs) ∧ RowAt W' bm (c.rs).ref 57 ∧ RowAt W' bx #[.int .i64 k, .int .u64 n, .int .u32 off, .int .u32 v] 60 ∧ Below W.heap.size W W') ⟨RowAt.setRow_other hA2 hne _, RowAt.setRow hM2 _, RowAt.setRow_other hX2 hxm _, below_setRow hB2 hbmW _⟩ ?_
                clear HA HM HX HB x0 x1 x2 x3
                rintro W3 ⟨hA, hM, hX, hB⟩
                have x0 := RowAt.cell hX (i := 0) rfl
                have x1 := RowAt.cell hX (i := 1) rfl
                have x2 := RowAt.cell hX (i := 2) rfl
                have x3 := RowAt.cell hX (i := 3) rfl
                have HA := Lib.hid hA
                have HM := Lib.hid hM
                have HX := Lib.hid hX
                have HB := Lib.hid hB
                clear hA hM hX hB
                clear hA2 hM2 hX2 hB2 hb2 HM2
                have hok2 : (c.rs).ok := rs_ok ok
                go_upto_region 9 with (first | (refine wpList_load_row_y rfl 57 (.tmp 7) rfl bm rfl 57 (c.rs).ref (0, 0) _ HM.out Try.underlying57 rfl (by kernel_rfl) ?_) | (go_at_call 41; refine (alike_any b (c.rs) _ HA.out hok2).mono ?_; rintro e w2 ⟨rfl, hb2⟩; have hA2 := ClAt.ext HA.out hb2; have hM2 := RowAt.ext HM.out hb2; have hX2 := RowAt.ext HX.out hb2; have hB2 := below_then HB.out hb2; have HM2 := Lib.hid hM2))
                go_wp2_with fail
                go_roundw
                case measure => simp [intOf]; omega
                case rel => exact ⟨b, c.rs, j + 1, by omega, rfl, by simp, hok2, ClAt.ext HA.out hb2, RowAt.ext HM.out hb2, hb, hne, below_then HB.out hb2⟩
              · have d3 : (k == 3) = false := beq_f k3
                clear k3
                by_cases k4 : k = 4
                · have d4 : (k == 4) = true := beq_t k4
                  clear k4
                  go_upto_region 30 with (go_at_call 28; refine (copy_live b c _ HA.out).mono ?_; rintro e w2 ⟨b', rfl, hb', hN, hb2⟩; have hA2 := ClAt.ext HA.out hb2; have hM2 := RowAt.ext HM.out hb2; have hX2 := RowAt.ext HX.out hb2; have hB2 := below_then HB.out hb2)
                  have nb : b ≠ b' := by have := RowAt.lt HA.out; omega
                  have nm : bm ≠ b' := by have := RowAt.lt HM.out; omega
                  have nx : bx ≠ b' := by have := RowAt.lt HX.out; omega
                  have nW : W.heap.size ≤ b' := by have := HB.out.size; omega
                  have HA0 := Lib.hid hA2
                  have HM := Lib.hid hM2
                  have HB := Lib.hid hB2
                  have HN := Lib.hid hN
                  clear HA HX x0 x1 x2 x3 hA2 hM2 hX2 hB2 hN hb2 hb' nx
                  go_upto_region 32 with (first | (refine wpList_load_row_y rfl 57 (.tmp 7) rfl bm rfl 57 (c).ref (0, 0) _ HM.out Try.underlying57 rfl (by kernel_rfl) ?_) | (go_at_call 41; refine (alike_any b' c _ HN.out ok).mono ?_; rintro e w2 ⟨rfl, hb2⟩; have hA2 := ClAt.ext HA0.out hb2; have hM2 := RowAt.ext HM.out hb2; have hN2 := ClAt.ext HN.out hb2; have hB2 := below_then HB.out hb2))
                  have HA0 := Lib.hid hA2
                  have HM := Lib.hid hM2
                  have HB := Lib.hid hB2
                  have HN := Lib.hid hN2
                  clear hA2 hM2 hB2 hN2 hb2
                  go_upto_region 33 with (go_at_call 29; refine (tick_live b c _ HA0.out ok 5 (by decide) (by decide)).mono ?_; rintro e w2 ⟨rfl, hA2, hF2⟩; have hM2 := RowAt.but HM.out hF2 hne.symm; have hN2 := ClAt.but HN.out hF2 nb.symm; have hB2 := But.below HB.out hF2 hb HB.out.size)
                  have HA0 := Lib.hid hA2
                  have HM := Lib.hid hM2
                  have HB := Lib.hid hB2
                  have HN := Lib.hid hN2
                  clear hA2 hM2 hB2 hN2 hF2
                  go_upto_region 34 with (go_at_call 39; refine (reset_live b _ _ HA0.out).mono ?_; rintro e w2 ⟨rfl, hA2, hF2⟩; have hM2 := RowAt.but HM.out hF2 hne.symm; have hN2 := ClAt.but HN.out hF2 nb.symm; have hB2 := But.below HB.out hF2 hb HB.out.size)
                  have HA := Lib.hid hN2
                  have HM := Lib.hid hM2
                  have HB := Lib.hid hB2
                  have HX : True := trivial
                  clear hA2 hM2 hB2 hN2 hF2 HA0 HN
                  have hok2 : (c).ok := ok
                  go_upto_region 9 with (first | (refine wpList_load_row_y rfl 57 (.tmp 7) rfl bm rfl 57 (c).ref (0, 0) _ HM.out Try.underlying57 rfl (by kernel_rfl) ?_) | (go_at_call 41; refine (alike_any b' (c) _ HA.out hok2).mono ?_; rintro e w2 ⟨rfl, hb2⟩; have hA2 := ClAt.ext HA.out hb2; have hM2 := RowAt.ext HM.out hb2; have hB2 := below_then HB.out hb2; have HM2 := Lib.hid hM2))
                  go_wp2_with fail
                  go_roundw
                  case measure => simp [intOf]; omega
                  case rel => exact ⟨b', c, j + 1, by omega, rfl, by simp, hok2, ClAt.ext HA.out hb2, RowAt.ext HM.out hb2, nW, nm.symm, below_then HB.out hb2⟩
                · have d4 : (k == 4) = false := beq_f k4
                  clear k4
                  have hok2 : (c).ok := ok
                  go_upto_region 9 with (first | (refine wpList_load_row_y rfl 57 (.tmp 7) rfl bm rfl 57 (c).ref (0, 0) _ HM.out Try.underlying57 rfl (by kernel_rfl) ?_) | (go_at_call 41; refine (alike_any b (c) _ HA.out hok2).mono ?_; rintro e w2 ⟨rfl, hb2⟩; have hA2 := ClAt.ext HA.out hb2; have hM2 := RowAt.ext HM.out hb2; have hX2 := RowAt.ext HX.out hb2; have hB2 := below_then HB.out hb2; have HM2 := Lib.hid hM2))
                  go_wp2_with fail
                  go_roundw
                  case measure => simp [intOf]; omega
                  case rel => exact ⟨b, c, j + 1, by omega, rfl, by simp, hok2, ClAt.ext HA.out hb2, RowAt.ext HM.out hb2, hb, hne, below_then HB.out hb2⟩
      · have hend : j < len → ¬ j < 80 := fun h h2 => hlt ⟨h, h2⟩
        have HB := Lib.hid hB
        clear hA hM hB
        by_cases h1 : j < len
        · have g80 : decide ((j : Int) < 80) = false := by have := hend h1; simp; omega
          go_wp2_with fail
          refine (known05 _).mono ?_
          rintro e w2 ⟨rfl, hb2⟩
          go_wp2_with fail
          go_ret
          exact ⟨rfl, below_then HB.out hb2⟩
        · have gl : decide ((j : Int) < (len : Int)) = false := by simp; omega
          go_wp2_with fail
          refine (known05 _).mono ?_
          rintro e w2 ⟨rfl, hb2⟩
          go_wp2_with fail
          go_ret
          exact ⟨rfl, below_then HB.out hb2⟩
  · have hbad : hs < 1 ∨ 8 < hs := by omega
    clear hg
    have HQ := Lib.hid hbad
    by_cases h1 : hs < 1
    · have t1 : decide (hs < 1) = true := dec_t h1
      clear hbad h1
      go_enter Try.func9, Try.ntmps9
      go_wp2_with (go_at_call 26; refine (new_bad hs _ HQ.out).mono ?_; rintro e w1 ⟨rfl, hb1⟩)
      refine (known05 _).mono ?_
      rintro e w2 ⟨rfl, hb2⟩
      go_wp2_with fail
      go_ret
      exact ⟨rfl, below_then hb1 hb2⟩
    · have t1 : decide (hs < 1) = false := dec_f h1
      have t2 : decide (8 < hs) = true := dec_t (by omega)
      clear hbad h1
      go_enter Try.func9, Try.ntmps9
      go_wp2_with (go_at_call 26; refine (new_bad hs _ HQ.out).mono ?_; rintro e w1 ⟨rfl, hb1⟩)
      refine (known05 _).mono ?_
      rintro e w2 ⟨rfl, hb2⟩
      go_wp2_with fail
      go_ret
      exact ⟨rfl, below_then hb1 hb2⟩
end Go.Proofs.Ytaihebdjhbnhoaa
