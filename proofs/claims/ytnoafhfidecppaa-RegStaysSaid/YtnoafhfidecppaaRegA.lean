/- A register: Fall, Raise, Again, Only, Store: what each call comes to. -/
import Derived.Test.YtnoafhfidecppaaBitsum
namespace Go.Proofs.Ytnoafhfidecppaa
open Go.RowKit
set_option linter.unusedVariables false
set_option linter.unusedSimpArgs false
set_option maxHeartbeats 4000000 in
set_option maxRecDepth 100000 in
theorem fall_any (a r x c b : Int) (w : World) :
    Calls Try.prog 24 #[.agg #[.int .u32 a, .int .u32 r, .int .u32 x, .int .u32 c], .int .u32 b] w fun e w' => e = .returned (.agg #[.int .u32 (bits .andNot .u32 a b), .int .u32 r, .int .u32 x, .int .u32 c]) ∧ Below w.heap.size w w' := by
  go_enter Try.func24, Try.ntmps24
  go_wp2
  refine bodyPost_ret (v := .agg #[.int .u32 (bits .andNot .u32 a b), .int .u32 r, .int .u32 x, .int .u32 c]) (by simp [results, Try.results24, go_sem]) rfl ⟨rfl, ?_⟩
  exact below_new (below_new (Below.refl _ _) _) _
set_option maxHeartbeats 4000000 in
set_option maxRecDepth 100000 in
theorem raise_any (a r x c b : Int) (w : World) :
    Calls Try.prog 22 #[.agg #[.int .u32 a, .int .u32 r, .int .u32 x, .int .u32 c], .int .u32 b] w fun e w' => e = .returned (.agg #[.int .u32 (bits .or .u32 a b), .int .u32 r, .int .u32 x, .int .u32 c]) ∧ Below w.heap.size w w' := by
  go_enter Try.func22, Try.ntmps22
  go_wp2
  refine bodyPost_ret (v := .agg #[.int .u32 (bits .or .u32 a b), .int .u32 r, .int .u32 x, .int .u32 c]) (by simp [results, Try.results22, go_sem]) rfl ⟨rfl, ?_⟩
  exact below_new (below_new (Below.refl _ _) _) _
set_option maxHeartbeats 4000000 in
set_option maxRecDepth 100000 in
theorem again_any (a r x c : Int) (w : World) :
    Calls Try.prog 20 #[.agg #[.int .u32 a, .int .u32 r, .int .u32 x, .int .u32 c]] w fun e w' => e = .returned (.agg #[.int .u32 (r), .int .u32 r, .int .u32 x, .int .u32 c]) ∧ Below w.heap.size w w' := by
  go_enter Try.func20, Try.ntmps20
  go_wp2
  refine bodyPost_ret (v := .agg #[.int .u32 (r), .int .u32 r, .int .u32 x, .int .u32 c]) (by simp [results, Try.results20, go_sem]) rfl ⟨rfl, ?_⟩
  exact below_new (below_new (Below.refl _ _) _) _
set_option maxHeartbeats 4000000 in
set_option maxRecDepth 100000 in
theorem again02_any (a r x c : Int) (w : World) :
    Calls Try.prog 25 #[.agg #[.int .u32 a, .int .u32 r, .int .u32 x, .int .u32 c]] w fun e w' => e = .returned (.agg #[.int .u32 (r), .int .u32 r, .int .u32 x, .int .u32 c]) ∧ Below w.heap.size w w' := by
  go_enter Try.func25, Try.ntmps25
  go_wp2
  refine bodyPost_ret (v := .agg #[.int .u32 (r), .int .u32 r, .int .u32 x, .int .u32 c]) (by simp [results, Try.results25, go_sem]) rfl ⟨rfl, ?_⟩
  exact below_new (below_new (Below.refl _ _) _) _
set_option maxHeartbeats 4000000 in
set_option maxRecDepth 100000 in
theorem only_any (a r x c : Int) (w : World) :
    Calls Try.prog 26 #[.agg #[.int .u32 a, .int .u32 r, .int .u32 x, .int .u32 c]] w fun e w' => e = .returned (.bool (bits .or .u32 x c == 0)) ∧ Below w.heap.size w w' := by
  go_enter Try.func26, Try.ntmps26
  go_wp2
  go_ret
  exact ⟨rfl, below_new (Below.refl _ _) _⟩
def storeI (a x c v : Int) : Int := bits .andNot .u32 (bits .or .u32 (bits .andNot .u32 a x) (bits .and .u32 v x)) (bits .and .u32 v c)
set_option maxHeartbeats 4000000 in
set_option maxRecDepth 100000 in
theorem store_any (a r x c v : Int) (w : World) :
    Calls Try.prog 18 #[.agg #[.int .u32 a, .int .u32 r, .int .u32 x, .int .u32 c], .int .u32 v] w fun e w' => e = .returned (.agg #[.int .u32 (storeI a x c v), .int .u32 r, .int .u32 x, .int .u32 c]) ∧ Below w.heap.size w w' := by
  go_enter Try.func18, Try.ntmps18
  go_wp2_with fail
  refine calls_box2 ?_
  intro W hB hb1 hb2 _
  refine (fall_any _ _ _ _ _ _).mono ?_
  rintro e wr ⟨rfl, hbr⟩
  obtain ⟨y, rfl⟩ := Ext.of hbr
  obtain ⟨hc1, hf1⟩ := Ext.cells hb1
  obtain ⟨hc2, hf2⟩ := Ext.cells hb2
  go_wp2
  refine bodyPost_ret (v := .agg #[.int .u32 (storeI a x c v), .int .u32 r, .int .u32 x, .int .u32 c]) (by simp [results, Try.results18, go_sem, hc2, storeI]) rfl ⟨rfl, ?_⟩
  repeat (first | exact below_then hB y.ok | refine below_set ?_ (by simp) _)
end Go.Proofs.Ytnoafhfidecppaa
