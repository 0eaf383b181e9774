/- A register: Fall, Raise, Again, Only, Store: what each call comes to. -/
import Derived.Test.YtgkklgebgabncaaProg
import Derived.Test.YtgkklgebgabncaaW0
namespace Go.Proofs.Ytgkklgebgabncaa
open Go.RowKit
set_option linter.unusedVariables false
set_option linter.unusedSimpArgs false
set_option maxHeartbeats 4000000 in
set_option maxRecDepth 100000 in
theorem fall_any (a r x c b : Int) (w : World) :
    Calls Try.prog 51 #[.agg #[.int .u32 a, .int .u32 r, .int .u32 x, .int .u32 c], .int .u32 b] w fun e w' => e = .returned (.agg #[.int .u32 (bits .andNot .u32 a b), .int .u32 r, .int .u32 x, .int .u32 c]) ∧ Below w.heap.size w w' := by
  go_enter Try.func51, Try.ntmps51
  go_wp2
  refine bodyPost_ret (v := .agg #[.int .u32 (bits .andNot .u32 a b), .int .u32 r, .int .u32 x, .int .u32 c]) (by simp [results, Try.results51, go_sem]) rfl ⟨rfl, ?_⟩
  exact below_new (below_new (Below.refl _ _) _) _
set_option maxHeartbeats 4000000 in
set_option maxRecDepth 100000 in
theorem raise_any (a r x c b : Int) (w : World) :
    Calls Try.prog 52 #[.agg #[.int .u32 a, .int .u32 r, .int .u32 x, .int .u32 c], .int .u32 b] w fun e w' => e = .returned (.agg #[.int .u32 (bits .or .u32 a b), .int .u32 r, .int .u32 x, .int .u32 c]) ∧ Below w.heap.size w w' := by
  go_enter Try.func52, Try.ntmps52
  go_wp2
  refine bodyPost_ret (v := .agg #[.int .u32 (bits .or .u32 a b), .int .u32 r, .int .u32 x, .int .u32 c]) (by simp [results, Try.results52, go_sem]) rfl ⟨rfl, ?_⟩
  exact below_new (below_new (Below.refl _ _) _) _
set_option maxHeartbeats 4000000 in
set_option maxRecDepth 100000 in
theorem again_any (a r x c : Int) (w : World) :
    Calls Try.prog 53 #[.agg #[.int .u32 a, .int .u32 r, .int .u32 x, .int .u32 c]] w fun e w' => e = .returned (.agg #[.int .u32 (r), .int .u32 r, .int .u32 x, .int .u32 c]) ∧ Below w.heap.size w w' := by
  go_enter Try.func53, Try.ntmps53
  go_wp2
  refine bodyPost_ret (v := .agg #[.int .u32 (r), .int .u32 r, .int .u32 x, .int .u32 c]) (by simp [results, Try.results53, go_sem]) rfl ⟨rfl, ?_⟩
  exact below_new (below_new (Below.refl _ _) _) _
set_option maxHeartbeats 4000000 in
set_option maxRecDepth 100000 in
theorem again02_any (a r x c : Int) (w : World) :
    Calls Try.prog 54 #[.agg #[.int .u32 a, .int .u32 r, .int .u32 x, .int .u32 c]] w fun e w' => e = .returned (.agg #[.int .u32 (r), .int .u32 r, .int .u32 x, .int .u32 c]) ∧ Below w.heap.size w w' := by
  go_enter Try.func54, Try.ntmps54
  go_wp2
  refine bodyPost_ret (v := .agg #[.int .u32 (r), .int .u32 r, .int .u32 x, .int .u32 c]) (by simp [results, Try.results54, go_sem]) rfl ⟨rfl, ?_⟩
  exact below_new (below_new (Below.refl _ _) _) _
set_option maxHeartbeats 4000000 in
set_option maxRecDepth 100000 in
theorem only_any (a r x c : Int) (w : World) :
    Calls Try.prog 47 #[.agg #[.int .u32 a, .int .u32 r, .int .u32 x, .int .u32 c]] w fun e w' => e = .returned (.bool (bits .or .u32 x c == 0)) ∧ Below w.heap.size w w' := by
  go_enter Try.func47, Try.ntmps47
  go_wp2
  go_ret
  exact ⟨rfl, below_new (Below.refl _ _) _⟩
def storeI (a x c v : Int) : Int := bits .andNot .u32 (bits .or .u32 (bits .andNot .u32 a x) (bits .and .u32 v x)) (bits .and .u32 v c)
set_option maxHeartbeats 4000000 in
set_option maxRecDepth 100000 in
theorem store_any (a r x c v : Int) (w : World) :
    Calls Try.prog 48 #[.agg #[.int .u32 a, .int .u32 r, .int .u32 x, .int .u32 c], .int .u32 v] w fun e w' => e = .returned (.agg #[.int .u32 (storeI a x c v), .int .u32 r, .int .u32 x, .int .u32 c]) ∧ Below w.heap.size w w' := by
  go_enter Try.func48, Try.ntmps48
  go_wp2_with fail
  refine calls_box2 ?_
  intro W hB hb1 hb2 _
  refine (fall_any _ _ _ _ _ _).mono ?_
  rintro e wr ⟨rfl, hbr⟩
  obtain ⟨y, rfl⟩ := Ext.of hbr
  obtain ⟨hc1, hf1⟩ := Ext.cells hb1
  obtain ⟨hc2, hf2⟩ := Ext.cells hb2
  go_wp2
  refine bodyPost_ret (v := .agg #[.int .u32 (storeI a x c v), .int .u32 r, .int .u32 x, .int .u32 c]) (by simp [results, Try.results48, go_sem, hc2, storeI]) rfl ⟨rfl, ?_⟩
  repeat (first | exact below_then hB y.ok | refine below_set ?_ (by simp) _)
set_option maxHeartbeats 4000000 in
set_option maxRecDepth 100000 in
theorem regNew_any (w : World) : Calls Try.prog 10 #[] w fun e w' => (∃ g, e = .returned (.pointer (some ⟨g, 0, none⟩))) ∧ Below w.heap.size w w' := by
  have hmm := @run_makeMap Try.prog
  go_enter Try.func10, Try.ntmps10
  go_wp2
  go_ret
  exact ⟨⟨_, rfl⟩, below_new (below_new (Below.refl _ _) _) _⟩
set_option maxHeartbeats 4000000 in
set_option maxRecDepth 100000 in
theorem known02 (w : World) : Calls Try.prog 23 #[] w fun e w' => e = .returned (.bool true) ∧ Below w.heap.size w w' := by
  have s1 : storeI 12 3 4 7 = 11 := by decide
  have s2 : bits .or .u32 0 0 = 0 := by decide
  go_enter Try.func23, Try.ntmps23
  refine wp_start ?_
  intro x
  go_wp2_with fail
  refine (store_any _ _ _ _ _ _).mono ?_
  rintro e wr ⟨rfl, hbr⟩
  obtain ⟨y, rfl⟩ := x.step hbr
  go_wp2_with fail
  refine calls_box ?_
  intro W hB hb _
  refine (regNew_any _).mono ?_
  rintro e wr2 ⟨⟨g, rfl⟩, hbr2⟩
  obtain ⟨z, rfl⟩ := Ext.of hbr2
  go_wp2_with (first | (go_at_call 47; refine (only_any _ _ _ _ _).mono ?_; rintro e wr ⟨rfl, hbr⟩; obtain ⟨y, rfl⟩ := Ext.step _ hbr; clear hbr))
  go_ret
  exact ⟨rfl, below_then (below_then (Ext.ok _) hB) (Ext.ok _)⟩
end Go.Proofs.Ytgkklgebgabncaa
