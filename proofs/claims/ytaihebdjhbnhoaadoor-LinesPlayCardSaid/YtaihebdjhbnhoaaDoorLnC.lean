/- Interrupt lines: Load, Store. -/
import Derived.Test.YtaihebdjhbnhoaaDoorLnB
namespace Go.Proofs.YtaihebdjhbnhoaaDoor
open Go.RowKit
set_option linter.unusedVariables false
set_option linter.unusedSimpArgs false

set_option maxHeartbeats 8000000 in
set_option maxRecDepth 100000 in
theorem load1_any (pb po g : Nat) (x y : Int) (fx : Bool) (w : World) (hp : w.cell? ⟨pb, po, none⟩ = some (.int .u32 x)) (hg : RowAt w g #[.int .u32 y] 27) :
    Calls Tryd.prog 26 #[.pointer (some ⟨pb, po, none⟩), .bool fx, .pointer (some ⟨g, 0, none⟩)] w fun e w' => e = .returned (.int .i64 0) ∧ RowAt w' g #[.int .u32 x] 27 ∧ But g w w' := by
  have e0 := RowAt.cell hg (i := 0) rfl
  have fz := RowAt.frozen hg
  have HG := Lib.hid hg
  clear hg
  go_enter Tryd.func26, Tryd.ntmps26
  go_wp2_with fail
  go_ret
  exact ⟨rfl, RowAt.set HG.out 0 _, (But.refl _ _).set _ _⟩
set_option maxHeartbeats 8000000 in
set_option maxRecDepth 100000 in
theorem store1_fix (pb po g : Nat) (w : World) :
    Calls Tryd.prog 23 #[.pointer (some ⟨pb, po, none⟩), .bool true, .pointer (some ⟨g, 0, none⟩)] w fun e w' => e = .returned (.int .i64 12) ∧ Below w.heap.size w w' := by
  go_enter Tryd.func23, Tryd.ntmps23
  go_wp2_with fail
  go_ret
  exact ⟨rfl, Below.refl _ _⟩
set_option maxHeartbeats 8000000 in
set_option maxRecDepth 100000 in
theorem store1_live (b g : Nat) (h m v : Int) (w : World) (hA : LnAt w b h m) (hg : RowAt w g #[.int .u32 v] 27) :
    Calls Tryd.prog 23 #[.pointer (some ⟨b, 1, none⟩), .bool false, .pointer (some ⟨g, 0, none⟩)] w fun e w' => e = .returned (.int .i64 0) ∧ LnAt w' b h v ∧ But b w w' := by
  have e0 := RowAt.cell hg (i := 0) rfl
  have e1 := hA.c1
  have fz := RowAt.frozen hA
  have HA := Lib.hid hA
  clear hg hA
  go_enter Tryd.func23, Tryd.ntmps23
  go_wp2_with fail
  go_ret
  exact ⟨rfl, RowAt.set HA.out 1 _, (But.refl _ _).set _ _⟩
def loadL (h m off : Int) : Int × Int := if off = 0 then (h, 0) else if off = 4 then (m, 0) else if off = 8 then (bits .and .u32 h m, 0) else if off % 4 ≠ 0 then (0, 11) else (0, 10)
def storeL (m off v : Int) : Int × Int := if off = 0 then (m, 12) else if off = 4 then (v, 0) else if off = 8 then (m, 12) else if off % 4 ≠ 0 then (m, 11) else (m, 10)
set_option maxHeartbeats 8000000 in
set_option maxRecDepth 100000 in
theorem asked_load (b g : Nat) (h m off : Int) (w : World) (hA : LnAt w b h m) (hG : RowAt w g #[.int .u32 0] 27) (hbg : b ≠ g) (h0 : 0 ≤ h) (h1 : h ≤ 4294967295) (m0 : 0 ≤ m) (m1 : m ≤ 4294967295) (u0 : 0 ≤ off) (u1 : off ≤ 4294967295) :
    Calls Tryd.prog 22 #[.pointer (some ⟨b, 0, none⟩), .int .u32 off, .func (.func 26) #[] #[.pointer (some ⟨g, 0, none⟩)]] w fun e w' => e = .returned (.int .i64 (loadL h m off).2) ∧ RowAt w' g #[.int .u32 (loadL h m off).1] 27 ∧ But g w w' := by
  have s0 : ∀ x : Ext w.heap.size w, x.world.cell? ⟨b, 0, none⟩ = some (.int .u32 h) := fun x => x.cell hA.c0
  have s1 : ∀ x : Ext w.heap.size w, x.world.cell? ⟨b, 1, none⟩ = some (.int .u32 m) := fun x => x.cell hA.c1
  have HA := Lib.hid hA
  have HG := Lib.hid hG
  clear hA hG
  by_cases o0 : off = 0
  · have d0 : (off == 0) = true := beq_t o0
    have HE : Hid (loadL h m off = (h, 0)) := Lib.hid (by unfold loadL; rw [if_pos o0])
    clear  o0
    go_enter Tryd.func22, Tryd.ntmps22
    go_upto_region 3 with (fail)
    refine wp_start (w := w) ?_
    intro x
    refine wp_region_free1 x 12 11 (fun g => .pointer (some ⟨g, 0, none⟩)) (.cells #[.int .u32 0] 27 (0, 0)) (by kernel_rfl) (by kernel_rfl) (by decide) (fun G => by kernel_rfl) ⟨_, rfl, rfl, fun a w => by kernel_rfl⟩ ?_
    intro gh w2 hw2
    have s0 : ∀ x : Ext w2.heap.size w2, x.world.cell? ⟨b, 0, none⟩ = some (.int .u32 h) := fun y => s0 ⟨_, below_then hw2 y.ok⟩
    have s1 : ∀ x : Ext w2.heap.size w2, x.world.cell? ⟨b, 1, none⟩ = some (.int .u32 m) := fun y => s1 ⟨_, below_then hw2 y.ok⟩
    simp only [List.take_succ_cons, List.take_zero, List.drop_succ_cons, List.drop_zero, List.modify_succ_cons, List.modify_zero_cons, made]
    repeat (go_big_quiet_step (fail))
    refine wpQuiet_nil ?_
    intro W4 hB4 hg4 hZ4
    have hZ : RowAt W4 gh #[.int .u32 0] 27 := hZ4
    have z0 : W4.cell? ⟨gh, 0, none⟩ = some (.int .u32 0) := hZ.cell (i := 0) rfl
    have zf := RowAt.frozen hZ
    clear s0 s1 hZ4
    go_upto_region 4 with (fail)
    have hgb : b ≠ gh := by have := RowAt.lt HA.out; omega
    have hgg : g ≠ gh := by have := RowAt.lt HG.out; omega
    refine wp_name (Pr := fun W' => LnAt W' b h m ∧ RowAt W' g #[.int .u32 0] 27 ∧ RowAt W' gh #[.int .u32 (bits .and .u32 h m)] 27 ∧ Below w.heap.size w W') ⟨RowAt.other (LnAt.ext HA.out hB4) hgb _, RowAt.other (RowAt.ext HG.out hB4) hgg _, RowAt.set hZ 0 _, below_set hB4 hg4 _⟩ ?_
    clear hZ z0 zf hB4 hw2 x HA HG
    rintro W ⟨hA, hG, hH, hB⟩
    have HA := Lib.hid hA
    have HG := Lib.hid hG
    have HH := Lib.hid hH
    have HB := Lib.hid hB
    clear hA hG hH hB
    have p0 := HA.out.c0
    go_wp2_with fail
    refine (load1_any b 0 g _ 0 _ W p0 HG.out).mono ?_
    rintro e w5 ⟨rfl, hR, hF⟩
    go_wp2_with fail
    go_ret
    exact ⟨by rw [HE.out]; rfl, by rw [HE.out]; exact hR, (but_of HB.out g).trans hF⟩
  · have d0 : (off == 0) = false := beq_f o0
    by_cases o4 : off = 4
    · have d4 : (off == 4) = true := beq_t o4
      have HE : Hid (loadL h m off = (m, 0)) := Lib.hid (by unfold loadL; rw [if_neg o0, if_pos o4])
      clear o0 o4
      go_enter Tryd.func22, Tryd.ntmps22
      go_upto_region 3 with (fail)
      refine wp_start (w := w) ?_
      intro x
      refine wp_region_free1 x 12 11 (fun g => .pointer (some ⟨g, 0, none⟩)) (.cells #[.int .u32 0] 27 (0, 0)) (by kernel_rfl) (by kernel_rfl) (by decide) (fun G => by kernel_rfl) ⟨_, rfl, rfl, fun a w => by kernel_rfl⟩ ?_
      intro gh w2 hw2
      have s0 : ∀ x : Ext w2.heap.size w2, x.world.cell? ⟨b, 0, none⟩ = some (.int .u32 h) := fun y => s0 ⟨_, below_then hw2 y.ok⟩
      have s1 : ∀ x : Ext w2.heap.size w2, x.world.cell? ⟨b, 1, none⟩ = some (.int .u32 m) := fun y => s1 ⟨_, below_then hw2 y.ok⟩
      simp only [List.take_succ_cons, List.take_zero, List.drop_succ_cons, List.drop_zero, List.modify_succ_cons, List.modify_zero_cons, made]
      repeat (go_big_quiet_step (fail))
      refine wpQuiet_nil ?_
      intro W4 hB4 hg4 hZ4
      have hZ : RowAt W4 gh #[.int .u32 0] 27 := hZ4
      have z0 : W4.cell? ⟨gh, 0, none⟩ = some (.int .u32 0) := hZ.cell (i := 0) rfl
      have zf := RowAt.frozen hZ
      clear s0 s1 hZ4
      go_upto_region 4 with (fail)
      have hgb : b ≠ gh := by have := RowAt.lt HA.out; omega
      have hgg : g ≠ gh := by have := RowAt.lt HG.out; omega
      refine wp_name (Pr := fun W' => LnAt W' b h m ∧ RowAt W' g #[.int .u32 0] 27 ∧ RowAt W' gh #[.int .u32 (bits .and .u32 h m)] 27 ∧ Below w.heap.size w W') ⟨RowAt.other (LnAt.ext HA.out hB4) hgb _, RowAt.other (RowAt.ext HG.out hB4) hgg _, RowAt.set hZ 0 _, below_set hB4 hg4 _⟩ ?_
      clear hZ z0 zf hB4 hw2 x HA HG
      rintro W ⟨hA, hG, hH, hB⟩
      have HA := Lib.hid hA
      have HG := Lib.hid hG
      have HH := Lib.hid hH
      have HB := Lib.hid hB
      clear hA hG hH hB
      have p0 := HA.out.c1
      go_wp2_with fail
      refine (load1_any b 1 g _ 0 _ W p0 HG.out).mono ?_
      rintro e w5 ⟨rfl, hR, hF⟩
      go_wp2_with fail
      go_ret
      exact ⟨by rw [HE.out]; rfl, by rw [HE.out]; exact hR, (but_of HB.out g).trans hF⟩
    · have d4 : (off == 4) = false := beq_f o4
      by_cases o8 : off = 8
      · have d8 : (off == 8) = true := beq_t o8
        have HE : Hid (loadL h m off = (bits .and .u32 h m, 0)) := Lib.hid (by unfold loadL; rw [if_neg o0, if_neg o4, if_pos o8])
        clear o0 o4 o8
        go_enter Tryd.func22, Tryd.ntmps22
        go_upto_region 3 with (fail)
        refine wp_start (w := w) ?_
        intro x
        refine wp_region_free1 x 12 11 (fun g => .pointer (some ⟨g, 0, none⟩)) (.cells #[.int .u32 0] 27 (0, 0)) (by kernel_rfl) (by kernel_rfl) (by decide) (fun G => by kernel_rfl) ⟨_, rfl, rfl, fun a w => by kernel_rfl⟩ ?_
        intro gh w2 hw2
        have s0 : ∀ x : Ext w2.heap.size w2, x.world.cell? ⟨b, 0, none⟩ = some (.int .u32 h) := fun y => s0 ⟨_, below_then hw2 y.ok⟩
        have s1 : ∀ x : Ext w2.heap.size w2, x.world.cell? ⟨b, 1, none⟩ = some (.int .u32 m) := fun y => s1 ⟨_, below_then hw2 y.ok⟩
        simp only [List.take_succ_cons, List.take_zero, List.drop_succ_cons, List.drop_zero, List.modify_succ_cons, List.modify_zero_cons, made]
        repeat (go_big_quiet_step (fail))
        refine wpQuiet_nil ?_
        intro W4 hB4 hg4 hZ4
        have hZ : RowAt W4 gh #[.int .u32 0] 27 := hZ4
        have z0 : W4.cell? ⟨gh, 0, none⟩ = some (.int .u32 0) := hZ.cell (i := 0) rfl
        have zf := RowAt.frozen hZ
        clear s0 s1 hZ4
        go_upto_region 4 with (fail)
        have hgb : b ≠ gh := by have := RowAt.lt HA.out; omega
        have hgg : g ≠ gh := by have := RowAt.lt HG.out; omega
        refine wp_name (Pr := fun W' => LnAt W' b h m ∧ RowAt W' g #[.int .u32 0] 27 ∧ RowAt W' gh #[.int .u32 (bits .and .u32 h m)] 27 ∧ Below w.heap.size w W') ⟨RowAt.other (LnAt.ext HA.out hB4) hgb _, RowAt.other (RowAt.ext HG.out hB4) hgg _, RowAt.set hZ 0 _, below_set hB4 hg4 _⟩ ?_
        clear hZ z0 zf hB4 hw2 x HA HG
        rintro W ⟨hA, hG, hH, hB⟩
        have HA := Lib.hid hA
        have HG := Lib.hid hG
        have HH := Lib.hid hH
        have HB := Lib.hid hB
        clear hA hG hH hB
        have p0 := RowAt.cell HH.out (i := 0) rfl
        go_wp2_with fail
        refine (load1_any gh 0 g _ 0 _ W p0 HG.out).mono ?_
        rintro e w5 ⟨rfl, hR, hF⟩
        go_wp2_with fail
        go_ret
        exact ⟨by rw [HE.out]; rfl, by rw [HE.out]; exact hR, (but_of HB.out g).trans hF⟩
      · have d8 : (off == 8) = false := beq_f o8
        by_cases om : off % 4 = 0
        · have dm : (off % 4 != 0) = false := bne_f om
          have HE : Hid (loadL h m off = (0, 10)) := Lib.hid (by unfold loadL; rw [if_neg o0, if_neg o4, if_neg o8, if_neg (by omega)])
          clear o0 o4 o8 om
          go_enter Tryd.func22, Tryd.ntmps22
          go_upto_region 3 with (fail)
          refine wp_start (w := w) ?_
          intro x
          refine wp_region_free1 x 12 11 (fun g => .pointer (some ⟨g, 0, none⟩)) (.cells #[.int .u32 0] 27 (0, 0)) (by kernel_rfl) (by kernel_rfl) (by decide) (fun G => by kernel_rfl) ⟨_, rfl, rfl, fun a w => by kernel_rfl⟩ ?_
          intro gh w2 hw2
          have s0 : ∀ x : Ext w2.heap.size w2, x.world.cell? ⟨b, 0, none⟩ = some (.int .u32 h) := fun y => s0 ⟨_, below_then hw2 y.ok⟩
          have s1 : ∀ x : Ext w2.heap.size w2, x.world.cell? ⟨b, 1, none⟩ = some (.int .u32 m) := fun y => s1 ⟨_, below_then hw2 y.ok⟩
          simp only [List.take_succ_cons, List.take_zero, List.drop_succ_cons, List.drop_zero, List.modify_succ_cons, List.modify_zero_cons, made]
          repeat (go_big_quiet_step (fail))
          refine wpQuiet_nil ?_
          intro W4 hB4 hg4 hZ4
          have hZ : RowAt W4 gh #[.int .u32 0] 27 := hZ4
          have z0 : W4.cell? ⟨gh, 0, none⟩ = some (.int .u32 0) := hZ.cell (i := 0) rfl
          have zf := RowAt.frozen hZ
          clear s0 s1 hZ4
          go_upto_region 4 with (fail)
          have hgb : b ≠ gh := by have := RowAt.lt HA.out; omega
          have hgg : g ≠ gh := by have := RowAt.lt HG.out; omega
          refine wp_name (Pr := fun W' => LnAt W' b h m ∧ RowAt W' g #[.int .u32 0] 27 ∧ RowAt W' gh #[.int .u32 (bits .and .u32 h m)] 27 ∧ Below w.heap.size w W') ⟨RowAt.other (LnAt.ext HA.out hB4) hgb _, RowAt.other (RowAt.ext HG.out hB4) hgg _, RowAt.set hZ 0 _, below_set hB4 hg4 _⟩ ?_
          clear hZ z0 zf hB4 hw2 x HA HG
          rintro W ⟨hA, hG, hH, hB⟩
          have HA := Lib.hid hA
          have HG := Lib.hid hG
          have HH := Lib.hid hH
          have HB := Lib.hid hB
          clear hA hG hH hB
          go_wp2_with fail
          go_ret
          exact ⟨by rw [HE.out]; rfl, by rw [HE.out]; exact HG.out, but_of HB.out g⟩
        · have dm : (off % 4 != 0) = true := bne_t om
          have HE : Hid (loadL h m off = (0, 11)) := Lib.hid (by unfold loadL; rw [if_neg o0, if_neg o4, if_neg o8, if_pos om])
          clear o0 o4 o8 om
          go_enter Tryd.func22, Tryd.ntmps22
          go_upto_region 3 with (fail)
          refine wp_start (w := w) ?_
          intro x
          refine wp_region_free1 x 12 11 (fun g => .pointer (some ⟨g, 0, none⟩)) (.cells #[.int .u32 0] 27 (0, 0)) (by kernel_rfl) (by kernel_rfl) (by decide) (fun G => by kernel_rfl) ⟨_, rfl, rfl, fun a w => by kernel_rfl⟩ ?_
          intro gh w2 hw2
          have s0 : ∀ x : Ext w2.heap.size w2, x.world.cell? ⟨b, 0, none⟩ = some (.int .u32 h) := fun y => s0 ⟨_, below_then hw2 y.ok⟩
          have s1 : ∀ x : Ext w2.heap.size w2, x.world.cell? ⟨b, 1, none⟩ = some (.int .u32 m) := fun y => s1 ⟨_, below_then hw2 y.ok⟩
          simp only [List.take_succ_cons, List.take_zero, List.drop_succ_cons, List.drop_zero, List.modify_succ_cons, List.modify_zero_cons, made]
          repeat (go_big_quiet_step (fail))
          refine wpQuiet_nil ?_
          intro W4 hB4 hg4 hZ4
          have hZ : RowAt W4 gh #[.int .u32 0] 27 := hZ4
          have z0 : W4.cell? ⟨gh, 0, none⟩ = some (.int .u32 0) := hZ.cell (i := 0) rfl
          have zf := RowAt.frozen hZ
          clear s0 s1 hZ4
          go_upto_region 4 with (fail)
          have hgb : b ≠ gh := by have := RowAt.lt HA.out; omega
          have hgg : g ≠ gh := by have := RowAt.lt HG.out; omega
          refine wp_name (Pr := fun W' => LnAt W' b h m ∧ RowAt W' g #[.int .u32 0] 27 ∧ RowAt W' gh #[.int .u32 (bits .and .u32 h m)] 27 ∧ Below w.heap.size w W') ⟨RowAt.other (LnAt.ext HA.out hB4) hgb _, RowAt.other (RowAt.ext HG.out hB4) hgg _, RowAt.set hZ 0 _, below_set hB4 hg4 _⟩ ?_
          clear hZ z0 zf hB4 hw2 x HA HG
          rintro W ⟨hA, hG, hH, hB⟩
          have HA := Lib.hid hA
          have HG := Lib.hid hG
          have HH := Lib.hid hH
          have HB := Lib.hid hB
          clear hA hG hH hB
          go_wp2_with fail
          go_ret
          exact ⟨by rw [HE.out]; rfl, by rw [HE.out]; exact HG.out, but_of HB.out g⟩
set_option maxHeartbeats 8000000 in
set_option maxRecDepth 100000 in
theorem asked_store (b g : Nat) (h m off v : Int) (w : World) (hA : LnAt w b h m) (hG : RowAt w g #[.int .u32 v] 27) (hbg : b ≠ g) (h0 : 0 ≤ h) (h1 : h ≤ 4294967295) (m0 : 0 ≤ m) (m1 : m ≤ 4294967295) (u0 : 0 ≤ off) (u1 : off ≤ 4294967295) :
    Calls Tryd.prog 22 #[.pointer (some ⟨b, 0, none⟩), .int .u32 off, .func (.func 23) #[] #[.pointer (some ⟨g, 0, none⟩)]] w fun e w' => e = .returned (.int .i64 (storeL m off v).2) ∧ LnAt w' b h (storeL m off v).1 ∧ But b w w' := by
  have s0 : ∀ x : Ext w.heap.size w, x.world.cell? ⟨b, 0, none⟩ = some (.int .u32 h) := fun x => x.cell hA.c0
  have s1 : ∀ x : Ext w.heap.size w, x.world.cell? ⟨b, 1, none⟩ = some (.int .u32 m) := fun x => x.cell hA.c1
  have HA := Lib.hid hA
  have HG := Lib.hid hG
  clear hA hG
  by_cases o0 : off = 0
  · have d0 : (off == 0) = true := beq_t o0
    have HE : Hid (storeL m off v = (m, 12)) := Lib.hid (by unfold storeL; rw [if_pos o0])
    clear  o0
    go_enter Tryd.func22, Tryd.ntmps22
    go_upto_region 3 with (fail)
    refine wp_start (w := w) ?_
    intro x
    refine wp_region_free1 x 12 11 (fun g => .pointer (some ⟨g, 0, none⟩)) (.cells #[.int .u32 0] 27 (0, 0)) (by kernel_rfl) (by kernel_rfl) (by decide) (fun G => by kernel_rfl) ⟨_, rfl, rfl, fun a w => by kernel_rfl⟩ ?_
    intro gh w2 hw2
    have s0 : ∀ x : Ext w2.heap.size w2, x.world.cell? ⟨b, 0, none⟩ = some (.int .u32 h) := fun y => s0 ⟨_, below_then hw2 y.ok⟩
    have s1 : ∀ x : Ext w2.heap.size w2, x.world.cell? ⟨b, 1, none⟩ = some (.int .u32 m) := fun y => s1 ⟨_, below_then hw2 y.ok⟩
    simp only [List.take_succ_cons, List.take_zero, List.drop_succ_cons, List.drop_zero, List.modify_succ_cons, List.modify_zero_cons, made]
    repeat (go_big_quiet_step (fail))
    refine wpQuiet_nil ?_
    intro W4 hB4 hg4 hZ4
    have hZ : RowAt W4 gh #[.int .u32 0] 27 := hZ4
    have z0 : W4.cell? ⟨gh, 0, none⟩ = some (.int .u32 0) := hZ.cell (i := 0) rfl
    have zf := RowAt.frozen hZ
    clear s0 s1 hZ4
    go_upto_region 4 with (fail)
    have hgb : b ≠ gh := by have := RowAt.lt HA.out; omega
    have hgg : g ≠ gh := by have := RowAt.lt HG.out; omega
    refine wp_name (Pr := fun W' => LnAt W' b h m ∧ RowAt W' g #[.int .u32 v] 27 ∧ RowAt W' gh #[.int .u32 (bits .and .u32 h m)] 27 ∧ Below w.heap.size w W') ⟨RowAt.other (LnAt.ext HA.out hB4) hgb _, RowAt.other (RowAt.ext HG.out hB4) hgg _, RowAt.set hZ 0 _, below_set hB4 hg4 _⟩ ?_
    clear hZ z0 zf hB4 hw2 x HA HG
    rintro W ⟨hA, hG, hH, hB⟩
    have HA := Lib.hid hA
    have HG := Lib.hid hG
    have HH := Lib.hid hH
    have HB := Lib.hid hB
    clear hA hG hH hB
    go_wp2_with fail
    refine (store1_fix b 0 g W).mono ?_
    rintro e w5 ⟨rfl, hb5⟩
    go_wp2_with fail
    go_ret
    exact ⟨by rw [HE.out]; rfl, by rw [HE.out]; exact LnAt.ext HA.out hb5, (but_of HB.out b).trans (but_of hb5 b)⟩
  · have d0 : (off == 0) = false := beq_f o0
    by_cases o4 : off = 4
    · have d4 : (off == 4) = true := beq_t o4
      have HE : Hid (storeL m off v = (v, 0)) := Lib.hid (by unfold storeL; rw [if_neg o0, if_pos o4])
      clear o0 o4
      go_enter Tryd.func22, Tryd.ntmps22
      go_upto_region 3 with (fail)
      refine wp_start (w := w) ?_
      intro x
      refine wp_region_free1 x 12 11 (fun g => .pointer (some ⟨g, 0, none⟩)) (.cells #[.int .u32 0] 27 (0, 0)) (by kernel_rfl) (by kernel_rfl) (by decide) (fun G => by kernel_rfl) ⟨_, rfl, rfl, fun a w => by kernel_rfl⟩ ?_
      intro gh w2 hw2
      have s0 : ∀ x : Ext w2.heap.size w2, x.world.cell? ⟨b, 0, none⟩ = some (.int .u32 h) := fun y => s0 ⟨_, below_then hw2 y.ok⟩
      have s1 : ∀ x : Ext w2.heap.size w2, x.world.cell? ⟨b, 1, none⟩ = some (.int .u32 m) := fun y => s1 ⟨_, below_then hw2 y.ok⟩
      simp only [List.take_succ_cons, List.take_zero, List.drop_succ_cons, List.drop_zero, List.modify_succ_cons, List.modify_zero_cons, made]
      repeat (go_big_quiet_step (fail))
      refine wpQuiet_nil ?_
      intro W4 hB4 hg4 hZ4
      have hZ : RowAt W4 gh #[.int .u32 0] 27 := hZ4
      have z0 : W4.cell? ⟨gh, 0, none⟩ = some (.int .u32 0) := hZ.cell (i := 0) rfl
      have zf := RowAt.frozen hZ
      clear s0 s1 hZ4
      go_upto_region 4 with (fail)
      have hgb : b ≠ gh := by have := RowAt.lt HA.out; omega
      have hgg : g ≠ gh := by have := RowAt.lt HG.out; omega
      refine wp_name (Pr := fun W' => LnAt W' b h m ∧ RowAt W' g #[.int .u32 v] 27 ∧ RowAt W' gh #[.int .u32 (bits .and .u32 h m)] 27 ∧ Below w.heap.size w W') ⟨RowAt.other (LnAt.ext HA.out hB4) hgb _, RowAt.other (RowAt.ext HG.out hB4) hgg _, RowAt.set hZ 0 _, below_set hB4 hg4 _⟩ ?_
      clear hZ z0 zf hB4 hw2 x HA HG
      rintro W ⟨hA, hG, hH, hB⟩
      have HA := Lib.hid hA
      have HG := Lib.hid hG
      have HH := Lib.hid hH
      have HB := Lib.hid hB
      clear hA hG hH hB
      go_wp2_with fail
      refine (store1_live b g h m v W HA.out HG.out).mono ?_
      rintro e w5 ⟨rfl, hR, hF⟩
      go_wp2_with fail
      go_ret
      exact ⟨by rw [HE.out]; rfl, by rw [HE.out]; exact hR, (but_of HB.out b).trans hF⟩
    · have d4 : (off == 4) = false := beq_f o4
      by_cases o8 : off = 8
      · have d8 : (off == 8) = true := beq_t o8
        have HE : Hid (storeL m off v = (m, 12)) := Lib.hid (by unfold storeL; rw [if_neg o0, if_neg o4, if_pos o8])
        clear o0 o4 o8
        go_enter Tryd.func22, Tryd.ntmps22
        go_upto_region 3 with (fail)
        refine wp_start (w := w) ?_
        intro x
        refine wp_region_free1 x 12 11 (fun g => .pointer (some ⟨g, 0, none⟩)) (.cells #[.int .u32 0] 27 (0, 0)) (by kernel_rfl) (by kernel_rfl) (by decide) (fun G => by kernel_rfl) ⟨_, rfl, rfl, fun a w => by kernel_rfl⟩ ?_
        intro gh w2 hw2
        have s0 : ∀ x : Ext w2.heap.size w2, x.world.cell? ⟨b, 0, none⟩ = some (.int .u32 h) := fun y => s0 ⟨_, below_then hw2 y.ok⟩
        have s1 : ∀ x : Ext w2.heap.size w2, x.world.cell? ⟨b, 1, none⟩ = some (.int .u32 m) := fun y => s1 ⟨_, below_then hw2 y.ok⟩
        simp only [List.take_succ_cons, List.take_zero, List.drop_succ_cons, List.drop_zero, List.modify_succ_cons, List.modify_zero_cons, made]
        repeat (go_big_quiet_step (fail))
        refine wpQuiet_nil ?_
        intro W4 hB4 hg4 hZ4
        have hZ : RowAt W4 gh #[.int .u32 0] 27 := hZ4
        have z0 : W4.cell? ⟨gh, 0, none⟩ = some (.int .u32 0) := hZ.cell (i := 0) rfl
        have zf := RowAt.frozen hZ
        clear s0 s1 hZ4
        go_upto_region 4 with (fail)
        have hgb : b ≠ gh := by have := RowAt.lt HA.out; omega
        have hgg : g ≠ gh := by have := RowAt.lt HG.out; omega
        refine wp_name (Pr := fun W' => LnAt W' b h m ∧ RowAt W' g #[.int .u32 v] 27 ∧ RowAt W' gh #[.int .u32 (bits .and .u32 h m)] 27 ∧ Below w.heap.size w W') ⟨RowAt.other (LnAt.ext HA.out hB4) hgb _, RowAt.other (RowAt.ext HG.out hB4) hgg _, RowAt.set hZ 0 _, below_set hB4 hg4 _⟩ ?_
        clear hZ z0 zf hB4 hw2 x HA HG
        rintro W ⟨hA, hG, hH, hB⟩
        have HA := Lib.hid hA
        have HG := Lib.hid hG
        have HH := Lib.hid hH
        have HB := Lib.hid hB
        clear hA hG hH hB
        go_wp2_with fail
        refine (store1_fix gh 0 g W).mono ?_
        rintro e w5 ⟨rfl, hb5⟩
        go_wp2_with fail
        go_ret
        exact ⟨by rw [HE.out]; rfl, by rw [HE.out]; exact LnAt.ext HA.out hb5, (but_of HB.out b).trans (but_of hb5 b)⟩
      · have d8 : (off == 8) = false := beq_f o8
        by_cases om : off % 4 = 0
        · have dm : (off % 4 != 0) = false := bne_f om
          have HE : Hid (storeL m off v = (m, 10)) := Lib.hid (by unfold storeL; rw [if_neg o0, if_neg o4, if_neg o8, if_neg (by omega)])
          clear o0 o4 o8 om
          go_enter Tryd.func22, Tryd.ntmps22
          go_upto_region 3 with (fail)
          refine wp_start (w := w) ?_
          intro x
          refine wp_region_free1 x 12 11 (fun g => .pointer (some ⟨g, 0, none⟩)) (.cells #[.int .u32 0] 27 (0, 0)) (by kernel_rfl) (by kernel_rfl) (by decide) (fun G => by kernel_rfl) ⟨_, rfl, rfl, fun a w => by kernel_rfl⟩ ?_
          intro gh w2 hw2
          have s0 : ∀ x : Ext w2.heap.size w2, x.world.cell? ⟨b, 0, none⟩ = some (.int .u32 h) := fun y => s0 ⟨_, below_then hw2 y.ok⟩
          have s1 : ∀ x : Ext w2.heap.size w2, x.world.cell? ⟨b, 1, none⟩ = some (.int .u32 m) := fun y => s1 ⟨_, below_then hw2 y.ok⟩
          simp only [List.take_succ_cons, List.take_zero, List.drop_succ_cons, List.drop_zero, List.modify_succ_cons, List.modify_zero_cons, made]
          repeat (go_big_quiet_step (fail))
          refine wpQuiet_nil ?_
          intro W4 hB4 hg4 hZ4
          have hZ : RowAt W4 gh #[.int .u32 0] 27 := hZ4
          have z0 : W4.cell? ⟨gh, 0, none⟩ = some (.int .u32 0) := hZ.cell (i := 0) rfl
          have zf := RowAt.frozen hZ
          clear s0 s1 hZ4
          go_upto_region 4 with (fail)
          have hgb : b ≠ gh := by have := RowAt.lt HA.out; omega
          have hgg : g ≠ gh := by have := RowAt.lt HG.out; omega
          refine wp_name (Pr := fun W' => LnAt W' b h m ∧ RowAt W' g #[.int .u32 v] 27 ∧ RowAt W' gh #[.int .u32 (bits .and .u32 h m)] 27 ∧ Below w.heap.size w W') ⟨RowAt.other (LnAt.ext HA.out hB4) hgb _, RowAt.other (RowAt.ext HG.out hB4) hgg _, RowAt.set hZ 0 _, below_set hB4 hg4 _⟩ ?_
          clear hZ z0 zf hB4 hw2 x HA HG
          rintro W ⟨hA, hG, hH, hB⟩
          have HA := Lib.hid hA
          have HG := Lib.hid hG
          have HH := Lib.hid hH
          have HB := Lib.hid hB
          clear hA hG hH hB
          go_wp2_with fail
          go_ret
          exact ⟨by rw [HE.out]; rfl, by rw [HE.out]; exact HA.out, but_of HB.out b⟩
        · have dm : (off % 4 != 0) = true := bne_t om
          have HE : Hid (storeL m off v = (m, 11)) := Lib.hid (by unfold storeL; rw [if_neg o0, if_neg o4, if_neg o8, if_pos om])
          clear o0 o4 o8 om
          go_enter Tryd.func22, Tryd.ntmps22
          go_upto_region 3 with (fail)
          refine wp_start (w := w) ?_
          intro x
          refine wp_region_free1 x 12 11 (fun g => .pointer (some ⟨g, 0, none⟩)) (.cells #[.int .u32 0] 27 (0, 0)) (by kernel_rfl) (by kernel_rfl) (by decide) (fun G => by kernel_rfl) ⟨_, rfl, rfl, fun a w => by kernel_rfl⟩ ?_
          intro gh w2 hw2
          have s0 : ∀ x : Ext w2.heap.size w2, x.world.cell? ⟨b, 0, none⟩ = some (.int .u32 h) := fun y => s0 ⟨_, below_then hw2 y.ok⟩
          have s1 : ∀ x : Ext w2.heap.size w2, x.world.cell? ⟨b, 1, none⟩ = some (.int .u32 m) := fun y => s1 ⟨_, below_then hw2 y.ok⟩
          simp only [List.take_succ_cons, List.take_zero, List.drop_succ_cons, List.drop_zero, List.modify_succ_cons, List.modify_zero_cons, made]
          repeat (go_big_quiet_step (fail))
          refine wpQuiet_nil ?_
          intro W4 hB4 hg4 hZ4
          have hZ : RowAt W4 gh #[.int .u32 0] 27 := hZ4
          have z0 : W4.cell? ⟨gh, 0, none⟩ = some (.int .u32 0) := hZ.cell (i := 0) rfl
          have zf := RowAt.frozen hZ
          clear s0 s1 hZ4
          go_upto_region 4 with (fail)
          have hgb : b ≠ gh := by have := RowAt.lt HA.out; omega
          have hgg : g ≠ gh := by have := RowAt.lt HG.out; omega
          refine wp_name (Pr := fun W' => LnAt W' b h m ∧ RowAt W' g #[.int .u32 v] 27 ∧ RowAt W' gh #[.int .u32 (bits .and .u32 h m)] 27 ∧ Below w.heap.size w W') ⟨RowAt.other (LnAt.ext HA.out hB4) hgb _, RowAt.other (RowAt.ext HG.out hB4) hgg _, RowAt.set hZ 0 _, below_set hB4 hg4 _⟩ ?_
          clear hZ z0 zf hB4 hw2 x HA HG
          rintro W ⟨hA, hG, hH, hB⟩
          have HA := Lib.hid hA
          have HG := Lib.hid hG
          have HH := Lib.hid hH
          have HB := Lib.hid hB
          clear hA hG hH hB
          go_wp2_with fail
          go_ret
          exact ⟨by rw [HE.out]; rfl, by rw [HE.out]; exact HA.out, but_of HB.out b⟩
set_option maxHeartbeats 8000000 in
set_option maxRecDepth 100000 in
theorem load_live (b : Nat) (h m : Int) (w : World) (hA : LnAt w b h m) (h0 : 0 ≤ h) (h1 : h ≤ 4294967295) (m0 : 0 ≤ m) (m1 : m ≤ 4294967295) (off : Int) (u0 : 0 ≤ off) (u1 : off ≤ 4294967295) :
    Calls Tryd.prog 12 #[.pointer (some ⟨b, 0, none⟩), .int .u32 off] w fun e w' => e = .returned (.tuple #[.int .u32 (loadL h m off).1, .int .i64 (loadL h m off).2]) ∧ Below w.heap.size w w' := by
  go_enter Tryd.func12, Tryd.ntmps12
  go_upto_region 2 with (fail)
  refine wp_box ?_
  intro W hB b0 hW
  have hbW : b < w.heap.size := RowAt.lt hA
  have hA2 : LnAt W b h m := LnAt.ext hA hB
  have R0 : RowAt W w.heap.size #[.int .u32 0] 27 := b0
  have HA := Lib.hid hA2
  have HG := Lib.hid R0
  have HB := Lib.hid hB
  clear b0 R0 hA hA2 hB
  go_wp2_with (go_at_call 22; refine (asked_load b w.heap.size h m off W HA.out HG.out (by omega) h0 h1 m0 m1 u0 u1).mono ?_; rintro e w2 ⟨rfl, hG2, hF2⟩; have e2 := RowAt.cell hG2 (i := 0) rfl)
  go_ret2
  exact ⟨rfl, HB.out.trans (But.below (Below.refl _ _) hF2 (Nat.le_refl _) (by have := HB.out.size; omega))⟩
set_option maxHeartbeats 8000000 in
set_option maxRecDepth 100000 in
theorem store_live (b : Nat) (h m : Int) (w : World) (hA : LnAt w b h m) (h0 : 0 ≤ h) (h1 : h ≤ 4294967295) (m0 : 0 ≤ m) (m1 : m ≤ 4294967295) (off v : Int) (u0 : 0 ≤ off) (u1 : off ≤ 4294967295) :
    Calls Tryd.prog 8 #[.pointer (some ⟨b, 0, none⟩), .int .u32 off, .int .u32 v] w fun e w' => e = .returned (.int .i64 (storeL m off v).2) ∧ LnAt w' b h (storeL m off v).1 ∧ But b w w' := by
  go_enter Tryd.func8, Tryd.ntmps8
  go_upto_region 1 with (fail)
  refine wp_box ?_
  intro W hB b0 hW
  have hbW : b < w.heap.size := RowAt.lt hA
  have hA2 : LnAt W b h m := LnAt.ext hA hB
  have R0 : RowAt W w.heap.size #[.int .u32 v] 27 := b0
  have HA := Lib.hid hA2
  have HG := Lib.hid R0
  have HB := Lib.hid hB
  clear b0 R0 hA hA2 hB
  go_wp2_with (go_at_call 22; refine (asked_store b w.heap.size h m off v W HA.out HG.out (by omega) h0 h1 m0 m1 u0 u1).mono ?_; rintro e w2 ⟨rfl, hA2, hF2⟩)
  go_ret
  exact ⟨rfl, hA2, (but_of HB.out b).trans hF2⟩
end Go.Proofs.YtaihebdjhbnhoaaDoor
