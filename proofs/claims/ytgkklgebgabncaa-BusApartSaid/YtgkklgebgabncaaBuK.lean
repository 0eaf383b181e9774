/- A bus in memory: Store to a region's file. -/
import Derived.Test.YtgkklgebgabncaaBuI
import Derived.Test.YtgkklgebgabncaaFiC
namespace Go.Proofs.Ytgkklgebgabncaa
open Go.RowKit
set_option linter.unusedVariables false
set_option linter.unusedSimpArgs false
open Go.Lib Go.Sort
set_option maxHeartbeats 8000000 in
set_option maxRecDepth 100000 in
theorem bstore_fi (b bm : Nat) (M : Rn) (c : Nat) (x u p1 p2 : Int) (f fm : Nat) (l : Fm) (w : World) (hA : BuAt w b bm M c) (hO : BuOk M) (x0 : 0 ≤ x) (x1 : x ≤ 4294967295) (hH : HasAt M x (p1, p2) f) (hF : FiAt w f fm l) :
    Calls Try.prog 35 #[.pointer (some ⟨b, 0, none⟩), .int .u32 x, .int .u32 u] w fun e w' => e = .returned (.int .i64 (stoE l (x - p1))) ∧ FiAt w' f fm (stoL l (x - p1) u) ∧ Only (· = fm) w w' := by
  have hin : R32 (p1, p2) := by
    obtain ⟨q, hq, e⟩ := hH.mem
    rw [← e]
    exact hO.rg q hq
  have ho := has_in hin x0 x1 hH.has
  have o0 : 0 ≤ x - p1 := ho.2
  have o1 : x - p1 ≤ 4294967295 := by have := hin.a0; dsimp only at *; omega
  have HR := Lib.hid (regsOf_live hA hO)
  have HA := Lib.hid hA
  have HF := Lib.hid hF
  obtain ⟨E, hE⟩ : ∃ E, stoE l (x - p1) = E := ⟨_, rfl⟩
  obtain ⟨L, hL⟩ : ∃ L, stoL l (x - p1) u = L := ⟨_, rfl⟩
  have HL := Lib.hid (show ∀ w', FiAt w' f fm l → Calls Try.prog 16 #[.pointer (some ⟨f, 0, none⟩), .int .u32 (x - p1), .int .u32 u] w' (fun e w'' => e = .returned (.int .i64 E) ∧ FiAt w'' f fm L ∧ Only (· = fm) w' w'') from fun w' h => by rw [← hL, ← hE]; exact fstore_any f fm l (x - p1) u w' h o0 o1)
  rw [hE, hL]
  clear hE hL hA hF ho hin o0 o1
  go_enter Try.func35, Try.ntmps35
  go_upto_region 2 with (go_at_call 33; refine (find_gen (.pointer (some ⟨b, 0, none⟩)) M x _ HR.out hO x0 x1).mono ?_; rintro e w1 ⟨r1, r2, off, code, rfl, hFd, hb1⟩)
  obtain ⟨hr, rfl, rfl⟩ := hH.finds hFd
  injection hr with hr1 hr2
  subst hr1 hr2
  refine wp_name (Pr := fun W => RowAt W w1.heap.size #[.int .u32 r1, .int .u32 r2] 52 ∧ BuAt W b bm M c ∧ FiAt W f fm l ∧ Below w.heap.size w W) ⟨RowAt.new w1 _ _, (HA.out.ext hb1).ext (below_new (Below.refl _ _) _), (HF.out.ext hb1).ext (below_new (Below.refl _ _) _), below_new hb1 _⟩ ?_
  clear HR HA HF hFd hb1
  rintro W ⟨hX, hA, hF, hB⟩
  have HV := Lib.hid (show (valL (r1, r2) M).getD .nilIface = devV f by rw [hH.val]; rfl)
  have HM := Lib.hid (map_at_ext hA.m)
  have HF := Lib.hid hF
  have HB := Lib.hid hB
  obtain ⟨hkR, _⟩ := Ext.cells hA.row
  obtain ⟨hkX, _⟩ := Ext.cells hX
  have s0 : ∀ y : Ext W.heap.size W, y.world.cell? ⟨b, 0, none⟩ = some (.map (some bm)) := fun y => hkR y 0
  have se0 : ∀ y : Ext W.heap.size W, y.world.cell? ⟨w1.heap.size, 0, none⟩ = some (.int .u32 r1) := fun y => hkX y 0
  have se1 : ∀ y : Ext W.heap.size W, y.world.cell? ⟨w1.heap.size, 1, none⟩ = some (.int .u32 r2) := fun y => hkX y 1
  clear hX hA hF hB hkR hkX
  go_upto_region 4 with fail
  refine wp_start (w := W) ?_
  intro x0
  refine wp_region_ext_tail _ 8 (by kernel_rfl) (by kernel_rfl) (by kernel_rfl) ?_
  simp only [List.take_succ_cons, List.take_zero, List.drop_succ_cons, List.drop_zero]
  repeat (first
    | (refine wpQuiet_lookup_at rfl (.tmp 23) (.tmp 24) rfl keyEnc_rk Try.underlying109 .nilIface (fun w => by kernel_rfl) (fun w' hw' => HM.out w' hw') rfl (r1, r2) rfl (devV f) HV.out ?_; simp only [Act.put, List.setIfInBounds_toArray, List.set_cons_succ, List.set_cons_zero])
    | go_big_quiet_step (fail))
  refine wpQuiet_nil ?_
  rintro _ ⟨y, rfl⟩
  refine wpList_invoke_at rfl (.tmp 25) "Store" #[.tmp 26, .tmp 27] #[26, 26] rfl (devV f) rfl #[.int .u32 (x - r1), .int .u32 u] rfl (inv_store f (x - r1) u _) ?_
  refine (HL.out _ (HF.out.ext y.ok)).mono ?_
  rintro e w2 ⟨rfl, hF2, hO2⟩
  refine ⟨_, rfl, ?_⟩
  simp only [Act.put, List.setIfInBounds_toArray, List.set_cons_succ, List.set_cons_zero]
  have HF2 := Lib.hid hF2
  have HO2 := Lib.hid ((only_of (below_then HB.out y.ok) _).trans hO2)
  clear hF2 hO2
  go_wp2_with fail
  go_ret
  exact ⟨rfl, HF2.out, HO2.out⟩
end Go.Proofs.Ytgkklgebgabncaa
