/- A file of registers in memory: Define, turn, Store. -/
import Derived.Test.YtgkklgebgabncaaFiA
import Derived.Test.YtgkklgebgabncaaPart
import Derived.Test.YtgkklgebgabncaaTail
import Derived.Deep.Cut
namespace Go.Proofs.Ytgkklgebgabncaa
open Go.RowKit
set_option linter.unusedVariables false
set_option linter.unusedSimpArgs false

def defE (l : Fm) (off : Int) : Int := if ¬ off % 4 = 0 then 11 else match l off with
  | some _ => 15
  | none => 0
def defL (l : Fm) (off : Int) (x : Rg) : Fm := if off % 4 = 0 ∧ l off = none then l.put off x else l
set_option maxHeartbeats 8000000 in
set_option maxRecDepth 100000 in
theorem define_no (f fm : Nat) (l : Fm) (off : Int) (x : Rg) (w : World) (hA : FiAt w f fm l) (o0 : 0 ≤ off) (o1 : off ≤ 4294967295) (hN : Hid (¬ (off % 4 = 0 ∧ l off = none))) :
    Calls Try.prog 12 #[.pointer (some ⟨f, 0, none⟩), .int .u32 off, gv x] w fun e w' => e = .returned (.int .i64 (defE l off)) ∧ Below w.heap.size w w' := by
  obtain ⟨xa, xb, xc, xd⟩ := x
  generalize hF : findV l off = F
  obtain ⟨a, b, c, d⟩ := F
  have key : (findE l off = 11 ∧ defE l off = 11) ∨ (findE l off = 0 ∧ defE l off = 15) := by
    have h := hN.out
    unfold findE defE
    by_cases h4 : off % 4 = 0
    · rcases hl : l off with _ | y
      · exact absurd ⟨h4, hl⟩ h
      · simp [h4]
    · simp [h4]
  have HA := Lib.hid hA
  clear hA
  rcases key with ⟨k1, k2⟩ | ⟨k1, k2⟩ <;> rw [k2]
  all_goals
    go_enter Try.func12, Try.ntmps12
    go_wp2_with (go_at_call 41; refine (find_any f fm l off _ (HA.out.ext (below_new (Below.refl _ _) _)) o0 o1).mono ?_; rintro e w1 ⟨a', b', c', d', rfl, hv, hb1⟩; rw [hF] at hv; cases hv; rw [k1])
    go_ret
    exact ⟨rfl, (by repeat (first | exact Below.refl _ _ | refine below_then ?_ hb1 | refine below_new ?_ _ | refine below_set ?_ (by simp) _))⟩
set_option maxHeartbeats 8000000 in
set_option maxRecDepth 100000 in
theorem define_put (f fm : Nat) (l : Fm) (off : Int) (x : Rg) (w : World) (hA : FiAt w f fm l) (o0 : 0 ≤ off) (o1 : off ≤ 4294967295) (h4 : off % 4 = 0) (hl : l off = none) (hx : Hid x.ok) :
    Calls Try.prog 12 #[.pointer (some ⟨f, 0, none⟩), .int .u32 off, gv x] w fun e w' => e = .returned (.int .i64 0) ∧ FiAt w' f fm (l.put off x) ∧ Only (· = fm) w w' := by
  obtain ⟨xa, xb, xc, xd⟩ := x
  have k1 : findE l off = 10 := by simp [findE, h4, hl]
  have hF : findV l off = ⟨0, 0, 0, 0⟩ := by simp [findV, h4, hl]
  obtain ⟨M, c, q⟩ := hA
  go_enter Try.func12, Try.ntmps12
  go_upto_region 1 with fail
  refine wp_name (Pr := fun W => FiIn W f fm l M c ∧ RowAt W w.heap.size #[.int .u32 xa, .int .u32 xb, .int .u32 xc, .int .u32 xd] 28 ∧ Below w.heap.size w W) ⟨q.ext (below_new (Below.refl _ _) _), RowAt.new w _ _, below_new (Below.refl _ _) _⟩ ?_
  clear q hl h4
  rintro W ⟨q, hE, hB⟩
  have HQ := Lib.hid q
  have HE := Lib.hid hE
  have HB := Lib.hid hB
  clear q hE hB
  go_upto_region 2 with (go_at_call 41; refine (find_any f fm l off _ ⟨M, c, HQ.out⟩ o0 o1).mono ?_; rintro e w1 ⟨a', b', c', d', rfl, hv, hb1⟩; rw [hF] at hv; cases hv; rw [k1])
  refine wp_name (Pr := fun W2 => Below W.heap.size W W2) (by repeat (first | exact Below.refl _ _ | refine below_then ?_ hb1 | refine below_new ?_ _ | refine below_set ?_ (by simp) _)) ?_
  clear hb1
  rintro W2 hb2
  have q := HQ.out.ext hb2
  have hE := RowAt.ext HE.out hb2
  have hB := below_then HB.out hb2
  have HQ := Lib.hid q
  have HE := Lib.hid hE
  have HB := Lib.hid hB
  obtain ⟨hkR, _⟩ := Ext.cells q.row
  obtain ⟨hkE, _⟩ := Ext.cells hE
  have s0 : ∀ y : Ext W2.heap.size W2, y.world.cell? ⟨f, 0, none⟩ = some (.map (some fm)) := fun y => hkR y 0
  have se0 : ∀ y : Ext W2.heap.size W2, y.world.cell? ⟨w.heap.size, 0, none⟩ = some (.int .u32 xa) := fun y => hkE y 0
  have se1 : ∀ y : Ext W2.heap.size W2, y.world.cell? ⟨w.heap.size, 1, none⟩ = some (.int .u32 xb) := fun y => hkE y 1
  have se2 : ∀ y : Ext W2.heap.size W2, y.world.cell? ⟨w.heap.size, 2, none⟩ = some (.int .u32 xc) := fun y => hkE y 2
  have se3 : ∀ y : Ext W2.heap.size W2, y.world.cell? ⟨w.heap.size, 3, none⟩ = some (.int .u32 xd) := fun y => hkE y 3
  clear q hE hB hkR hkE hb2
  go_upto_region 6 with fail
  refine wp_start (w := W2) ?_
  intro x0
  refine wp_region_ext_tail _ 7 (by kernel_rfl) (by kernel_rfl) (by kernel_rfl) ?_
  simp only [List.take_succ_cons, List.take_zero, List.drop_succ_cons, List.drop_zero]
  repeat (go_big_quiet_step (fail))
  refine wpQuiet_nil ?_
  rintro _ ⟨y, rfl⟩
  have HM1 := Lib.hid (HQ.out.ext y.ok).m
  go_wp2_with (at_mapUpdate; refine wpList_update_at rfl (.tmp 29) (.tmp 31) (.tmp 32) rfl keyEnc_of Try.underlying85 HM1.out rfl off rfl (gv ⟨xa, xb, xc, xd⟩) rfl ?_)
  go_ret
  exact ⟨rfl, ⟨_, _, (HQ.out.ext y.ok).put off ⟨xa, xb, xc, xd⟩ hx.out⟩, (only_of (below_then HB.out y.ok) (· = fm)).setB rfl _⟩
end Go.Proofs.Ytgkklgebgabncaa
