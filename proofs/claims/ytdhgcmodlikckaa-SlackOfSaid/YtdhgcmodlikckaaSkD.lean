/- The example's places, sorted. -/
import Derived.Test.YtdhgcmodlikckaaSkC
import Derived.Test.YtdhgcmodlikckaaMapQ
import Derived.Great.Walk
namespace Go.Proofs.Ytdhgcmodlikckaa
open Go.RowKit
set_option linter.unusedVariables false
set_option linter.unusedSimpArgs false

theorem cmp1 : cmpI 9 5 = 1 := by decide
theorem cmp2 : cmpI 8 9 = -1 := by decide
theorem cmp3 : cmpI 8 5 = 1 := by decide
theorem wp_name {P : Program} {c : Code} {Q : Exit → Act → World → Prop} {a : Act} {W : World} {Pr : World → Prop} (h : Pr W) (k : ∀ W', Pr W' → c.wp P Q a W') : c.wp P Q a W := k W h
theorem cell_twice {V : World} {bx g : Nat} {v x y : Value} (h : V.cell? ⟨bx, 0, none⟩ = some v) (hn : bx ≠ g) : ((V.setCell ⟨g, 2, none⟩ x).setCell ⟨g, 1, none⟩ y).drew.cell? ⟨bx, 0, none⟩ = some v := by
  show ((V.setCell ⟨g, 2, none⟩ x).setCell ⟨g, 1, none⟩ y).cell? ⟨bx, 0, none⟩ = some v
  rw [World.cell?_setCell_other _ _ _ _ (fun e => by cases e), World.cell?_setCell_other _ _ _ _ (fun e => by cases e)]
  exact h
def d3 (a b c : Int) (z : List Value) : List Value := [Value.int .i64 a, Value.int .i64 b, Value.int .i64 c] ++ z
theorem row3 {W : World} {g : Nat} {a b c : Int} {z : List Value} (h : RowAt W g (d3 a b c z).toArray 3) : W.cell? ⟨g, 0, none⟩ = some (.int .i64 a) ∧ W.cell? ⟨g, 1, none⟩ = some (.int .i64 b) ∧ W.cell? ⟨g, 2, none⟩ = some (.int .i64 c) := ⟨h.cell (i := 0) rfl, h.cell (i := 1) rfl, h.cell (i := 2) rfl⟩
set_option maxHeartbeats 8000000 in
set_option maxRecDepth 100000 in
theorem ins_kw (bl bx g cap : Nat) (z : List Value) (w : World) (hk : KwAt w bl) (hb : w.cell? ⟨bx, 0, none⟩ = some (.slice (some ⟨bl, 0, none⟩) 3 3)) (hg : RowAt w g (d3 0 1 2 z).toArray 3) (hn : 3 ≤ cap) (n1 : g ≠ bl) (n2 : g ≠ bx) :
    Calls Try.prog 86 #[.slice (some ⟨g, 0, none⟩) 3 cap, .int .i64 0, .int .i64 3, .func (.func 68) #[] #[.pointer (some ⟨bx, 0, none⟩)]] w fun e w' => e = .returned (.tuple #[]) ∧ RowAt w' g (d3 0 2 1 z).toArray 3 ∧ But g w w' := by
  have HK0 := Lib.hid hk
  have HB0 := Lib.hid hb
  have HG0 := Lib.hid hg
  have HU0 := Lib.hid (But.refl g w)
  have HNE := Lib.hid (And.intro n1 n2)
  have i3 : (2 : Int) < (cap : Int) := by omega
  clear hk hb hg n1 n2
  go_enter Try.func86, Try.ntmps86
  go_upto_region 1 with fail
  refine wp_loop_rounds 3 ?_
  rw [rounds_succ]
  go_upto_region 4 with fail
  refine wp_loop_rounds 3 ?_
  rw [rounds_succ]
  go_upto_region 4 with fail
  obtain ⟨q0, q1, q2⟩ := row3 HG0.out
  have s0 : ∀ y : Ext w.heap.size w, y.world.cell? ⟨g, 1, none⟩ = some (.int .i64 1) := fun y => y.cell q1
  have s1 : ∀ y : Ext w.heap.size w, y.world.cell? ⟨g, 0, none⟩ = some (.int .i64 0) := fun y => y.cell q0
  have hcl := fun y : Ext w.heap.size w => clo2_10 bl bx y.world (HK0.out.ext y.ok) (y.cell HB0.out)
  simp only [cmp1] at hcl
  have HCL := Lib.hid hcl
  clear hcl
  refine wp_start (w := w) ?_
  intro z0
  refine wp_region_ext _ (by kernel_rfl) (by kernel_rfl) ?_
  repeat (go_big_quiet_step ((go_at_call 68; exact Ext.call (HCL.out _))))
  refine wpQuiet_nil ?_
  rintro _ ⟨y, rfl⟩
  clear s0 s1 q0 q1 q2 HCL
  dsimp only [Exit.then]
  refine k_name (Pr := fun V => KwAt V bl ∧ V.cell? ⟨bx, 0, none⟩ = some (.slice (some ⟨bl, 0, none⟩) 3 3) ∧ RowAt V g (d3 0 1 2 z).toArray 3 ∧ But g w V) ⟨HK0.out.ext y.ok, y.cell HB0.out, RowAt.ext HG0.out y.ok, HU0.out.trans (but_of y.ok g)⟩ ?_
  rintro V1 ⟨hk, hb, hg, hu⟩
  have HK1 := Lib.hid hk
  have HB1 := Lib.hid hb
  have HG1 := Lib.hid hg
  have HU1 := Lib.hid hu
  clear hk hb hg hu
  go_at_K
  go_wp2_with fail
  rw [rounds_succ]
  go_upto_region 4 with fail
  refine wp_loop_rounds 3 ?_
  rw [rounds_succ]
  go_upto_region 4 with fail
  obtain ⟨q0, q1, q2⟩ := row3 HG1.out
  have s0 : ∀ y : Ext V1.heap.size V1, y.world.cell? ⟨g, 2, none⟩ = some (.int .i64 2) := fun y => y.cell q2
  have s1 : ∀ y : Ext V1.heap.size V1, y.world.cell? ⟨g, 1, none⟩ = some (.int .i64 1) := fun y => y.cell q1
  have hcl := fun y : Ext V1.heap.size V1 => clo2_21 bl bx y.world (HK1.out.ext y.ok) (y.cell HB1.out)
  simp only [cmp2] at hcl
  have HCL := Lib.hid hcl
  clear hcl
  refine wp_start (w := V1) ?_
  intro z0
  refine wp_region_ext _ (by kernel_rfl) (by kernel_rfl) ?_
  repeat (go_big_quiet_step ((go_at_call 68; exact Ext.call (HCL.out _))))
  refine wpQuiet_nil ?_
  rintro _ ⟨y, rfl⟩
  clear s0 s1 q0 q1 q2 HCL
  dsimp only [Exit.then]
  refine k_name (Pr := fun V => KwAt V bl ∧ V.cell? ⟨bx, 0, none⟩ = some (.slice (some ⟨bl, 0, none⟩) 3 3) ∧ RowAt V g (d3 0 1 2 z).toArray 3 ∧ But g w V) ⟨HK1.out.ext y.ok, y.cell HB1.out, RowAt.ext HG1.out y.ok, HU1.out.trans (but_of y.ok g)⟩ ?_
  rintro V2 ⟨hk, hb, hg, hu⟩
  have HK2 := Lib.hid hk
  have HB2 := Lib.hid hb
  have HG2 := Lib.hid hg
  have HU2 := Lib.hid hu
  clear hk hb hg hu
  go_at_K
  go_upto_region 6 with fail
  obtain ⟨q0, q1, q2⟩ := row3 HG2.out
  have f1 := HG2.out.frozen 1
  have f2 := HG2.out.frozen 2
  go_region_with fail
  all_goals
    dsimp only [Exit.then, Exit.inBlock]
    refine k_name (Pr := fun V => KwAt V bl ∧ V.cell? ⟨bx, 0, none⟩ = some (.slice (some ⟨bl, 0, none⟩) 3 3) ∧ RowAt V g (d3 0 2 1 z).toArray 3 ∧ But g w V) ⟨(RowAt.other (RowAt.other HK2.out (p := ⟨g, 2, none⟩) (Ne.symm HNE.out.1) _) (p := ⟨g, 1, none⟩) (Ne.symm HNE.out.1) _).drew, (cell_twice HB2.out (Ne.symm HNE.out.2)), ((HG2.out.set 2 _).set 1 _).drew, ((HU2.out.set 2 _).set 1 _).drew⟩ ?_
    clear q0 q1 q2 f1 f2 HK2 HB2 HG2 HU2
    rintro V3 ⟨hk, hb, hg, hu⟩
    have HK3 := Lib.hid hk
    have HB3 := Lib.hid hb
    have HG3 := Lib.hid hg
    have HU3 := Lib.hid hu
    clear hk hb hg hu
    go_at_K
    go_wp2_with fail
    rw [rounds_succ]
    go_upto_region 4 with fail
    obtain ⟨q0, q1, q2⟩ := row3 HG3.out
    have s0 : ∀ y : Ext V3.heap.size V3, y.world.cell? ⟨g, 1, none⟩ = some (.int .i64 2) := fun y => y.cell q1
    have s1 : ∀ y : Ext V3.heap.size V3, y.world.cell? ⟨g, 0, none⟩ = some (.int .i64 0) := fun y => y.cell q0
    have hcl := fun y : Ext V3.heap.size V3 => clo2_20 bl bx y.world (HK3.out.ext y.ok) (y.cell HB3.out)
    simp only [cmp3] at hcl
    have HCL := Lib.hid hcl
    clear hcl
    refine wp_start (w := V3) ?_
    intro z0
    refine wp_region_ext _ (by kernel_rfl) (by kernel_rfl) ?_
    repeat (go_big_quiet_step ((go_at_call 68; exact Ext.call (HCL.out _))))
    refine wpQuiet_nil ?_
    rintro _ ⟨y, rfl⟩
    clear s0 s1 q0 q1 q2 HCL
    dsimp only [Exit.then]
    refine k_name (Pr := fun V => KwAt V bl ∧ V.cell? ⟨bx, 0, none⟩ = some (.slice (some ⟨bl, 0, none⟩) 3 3) ∧ RowAt V g (d3 0 2 1 z).toArray 3 ∧ But g w V) ⟨HK3.out.ext y.ok, y.cell HB3.out, RowAt.ext HG3.out y.ok, HU3.out.trans (but_of y.ok g)⟩ ?_
    rintro V4 ⟨hk, hb, hg, hu⟩
    have HK4 := Lib.hid hk
    have HB4 := Lib.hid hb
    have HG4 := Lib.hid hg
    have HU4 := Lib.hid hu
    clear hk hb hg hu
    go_at_K
    go_wp2_with fail
    rw [rounds_succ]
    go_wp2_with fail
    exact Go.Great.bodyPost_end0 rfl rfl ⟨rfl, HG4.out, HU4.out⟩
set_option maxHeartbeats 8000000 in
set_option maxRecDepth 100000 in
theorem stb_kw (bl bx g cap : Nat) (z : List Value) (w : World) (hk : KwAt w bl) (hb : w.cell? ⟨bx, 0, none⟩ = some (.slice (some ⟨bl, 0, none⟩) 3 3)) (hg : RowAt w g (d3 0 1 2 z).toArray 3) (hn : 3 ≤ cap) (n1 : g ≠ bl) (n2 : g ≠ bx) :
    Calls Try.prog 73 #[.slice (some ⟨g, 0, none⟩) 3 cap, .int .i64 3, .func (.func 68) #[] #[.pointer (some ⟨bx, 0, none⟩)]] w fun e w' => e = .returned (.tuple #[]) ∧ RowAt w' g (d3 0 2 1 z).toArray 3 ∧ But g w w' := by
  have HI := Lib.hid (ins_kw bl bx g cap z w hk hb hg hn n1 n2)
  clear hk hb hg n1 n2
  go_enter Try.func73, Try.ntmps73
  go_upto_region 2 with fail
  refine wp_loop_rounds 1 ?_
  rw [rounds_succ]
  go_upto_region 7 with (go_at_call 86; refine HI.out.mono ?_; rintro e w1 ⟨rfl, hg1, hu1⟩; have HG1 := Lib.hid hg1; have HU1 := Lib.hid hu1; clear hg1 hu1)
  refine wp_loop_rounds 1 ?_
  rw [rounds_succ]
  go_wp2_with fail
  exact Go.Great.bodyPost_end0 rfl rfl ⟨rfl, HG1.out, HU1.out⟩
set_option maxHeartbeats 8000000 in
set_option maxRecDepth 100000 in
theorem ssf_kw (bl bx g cap : Nat) (z : List Value) (w : World) (hk : KwAt w bl) (hb : w.cell? ⟨bx, 0, none⟩ = some (.slice (some ⟨bl, 0, none⟩) 3 3)) (hg : RowAt w g (d3 0 1 2 z).toArray 3) (hn : 3 ≤ cap) (n1 : g ≠ bl) (n2 : g ≠ bx) :
    Calls Try.prog 67 #[.slice (some ⟨g, 0, none⟩) 3 cap, .func (.func 68) #[] #[.pointer (some ⟨bx, 0, none⟩)]] w fun e w' => e = .returned (.tuple #[]) ∧ RowAt w' g (d3 0 2 1 z).toArray 3 ∧ But g w w' := by
  have HI := Lib.hid (stb_kw bl bx g cap z w hk hb hg hn n1 n2)
  clear hk hb hg n1 n2
  go_enter Try.func67, Try.ntmps67
  go_wp2_with (go_at_call 73; refine HI.out.mono ?_; rintro e w1 ⟨rfl, hg1, hu1⟩; have HG1 := Lib.hid hg1; have HU1 := Lib.hid hu1; clear hg1 hu1)
  exact Go.Great.bodyPost_end0 rfl rfl ⟨rfl, HG1.out, HU1.out⟩
end Go.Proofs.Ytdhgcmodlikckaa
