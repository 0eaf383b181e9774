/- Words of 64 bits and their halves, in the program and in the document. -/
import Derived.Test.YtaihebdjhbnhoaaW0
import Derived.Test.YtaihebdjhbnhoaaProg
import Derived.Laws.Externs
namespace Go.Proofs.Ytaihebdjhbnhoaa
open Go.RowKit
set_option linter.unusedVariables false
set_option linter.unusedSimpArgs false
def addI (a b : Int) : Int := if a + b ≤ 18446744073709551615 then a + b else 18446744073709551615
def subI (a b : Int) : Int := if a < b then 0 else a - b
theorem add64_run (x y s c : Int) (x0 : 0 ≤ x) (y0 : 0 ≤ y) (hs : (x + y) % 18446744073709551616 = s) (hc : (x + y) / 18446744073709551616 = c) (w : World) :
    (callFunc 68 #[.int .u64 x, .int .u64 y, .int .u64 0]).run Try.prog w = .ok (.value (.tuple #[.int .u64 s, .int .u64 c])) w := by
  rw [run_callFunc_extern Try.func68 (by kernel_rfl) (by kernel_rfl) (by kernel_rfl) (e := add64Entry) (by kernel_rfl), run_add64 x y 0 x0 y0 (by omega) (by omega)]
  simp only [Result.andThen, Int.add_zero, hs, hc]
set_option maxHeartbeats 4000000 in
set_option maxRecDepth 100000 in
theorem add_any (a b : Int) (w : World) (h0 : 0 ≤ a) (h1 : a ≤ 18446744073709551615) (k0 : 0 ≤ b) (k1 : b ≤ 18446744073709551615) :
    Calls Try.prog 55 #[.int .u64 a, .int .u64 b] w fun e w' => e = .returned (.int .u64 (addI a b)) ∧ Below w.heap.size w w' := by
  by_cases h : a + b ≤ 18446744073709551615
  · have e1 : a + b = addI a b := by rw [addI, if_pos h]
    have E1 := Lib.hid e1
    clear e1
    have ha := fun w => add64_run a b (a + b) 0 h0 k0 (by omega) (by omega) w
    go_enter Try.func55, Try.ntmps55
    go_wp2_with (simp only [ha])
    go_ret
    exact ⟨ret_int E1.out, Below.refl _ _⟩
  · have e1 : 18446744073709551615 = addI a b := by rw [addI, if_neg h]
    have E1 := Lib.hid e1
    clear e1
    have ha := fun w => add64_run a b (a + b - 18446744073709551616) 1 h0 k0 (by omega) (by omega) w
    go_enter Try.func55, Try.ntmps55
    go_wp2_with (simp only [ha])
    go_ret
    exact ⟨ret_int E1.out, Below.refl _ _⟩
set_option maxHeartbeats 4000000 in
set_option maxRecDepth 100000 in
theorem radd_any (a b : Int) (w : World) (h0 : 0 ≤ a) (h1 : a ≤ 18446744073709551615) (k0 : 0 ≤ b) (k1 : b ≤ 18446744073709551615) :
    Calls Try.prog 59 #[.int .u64 a, .int .u64 b] w fun e w' => e = .returned (.int .u64 (addI a b)) ∧ Below w.heap.size w w' := by
  by_cases h : a + b ≤ 18446744073709551615
  · have e1 : a + b = addI a b := by rw [addI, if_pos h]
    have E1 := Lib.hid e1
    clear e1
    have g1 : decide (18446744073709551615 - b < a) = false := by simp; omega
    go_enter Try.func59, Try.ntmps59
    go_wp2
    go_ret
    exact ⟨ret_int E1.out, Below.refl _ _⟩
  · have e1 : 18446744073709551615 = addI a b := by rw [addI, if_neg h]
    have E1 := Lib.hid e1
    clear e1
    have g1 : decide (18446744073709551615 - b < a) = true := by simp; omega
    go_enter Try.func59, Try.ntmps59
    go_wp2
    go_ret
    exact ⟨ret_int E1.out, Below.refl _ _⟩
set_option maxHeartbeats 4000000 in
set_option maxRecDepth 100000 in
theorem lo_any (n : Int) (w : World) (h0 : 0 ≤ n) (h1 : n ≤ 18446744073709551615) :
    Calls Try.prog 54 #[.int .u64 n] w fun e w' => e = .returned (.int .u32 (n % 4294967296)) ∧ Below w.heap.size w w' := by
  have e1 : IntKind.u32.wrap n = n % 4294967296 := by rw [IntKind.wrap_u32]
  go_enter Try.func54, Try.ntmps54
  go_wp2
  go_ret
  exact ⟨rfl, Below.refl _ _⟩
set_option maxHeartbeats 4000000 in
set_option maxRecDepth 100000 in
theorem hi_any (n : Int) (w : World) (h0 : 0 ≤ n) (h1 : n ≤ 18446744073709551615) :
    Calls Try.prog 53 #[.int .u64 n] w fun e w' => e = .returned (.int .u32 (n / 4294967296)) ∧ Below w.heap.size w w' := by
  have e1 : IntKind.u32.wrap (n / 4294967296) = n / 4294967296 := by rw [IntKind.wrap_u32]; omega
  go_enter Try.func53, Try.ntmps53
  go_wp2
  go_ret
  exact ⟨rfl, Below.refl _ _⟩
set_option maxHeartbeats 4000000 in
set_option maxRecDepth 100000 in
theorem rlo_any (n : Int) (w : World) (h0 : 0 ≤ n) (h1 : n ≤ 18446744073709551615) :
    Calls Try.prog 60 #[.int .u64 n] w fun e w' => e = .returned (.int .u32 (n % 4294967296)) ∧ Below w.heap.size w w' := by
  go_enter Try.func60, Try.ntmps60
  go_wp2
  go_ret
  exact ⟨rfl, Below.refl _ _⟩
set_option maxHeartbeats 4000000 in
set_option maxRecDepth 100000 in
theorem rhi_any (n : Int) (w : World) (h0 : 0 ≤ n) (h1 : n ≤ 18446744073709551615) :
    Calls Try.prog 61 #[.int .u64 n] w fun e w' => e = .returned (.int .u32 (n / 4294967296)) ∧ Below w.heap.size w w' := by
  go_enter Try.func61, Try.ntmps61
  go_wp2
  go_ret
  exact ⟨rfl, Below.refl _ _⟩
theorem join_or (h l : Int) (h0 : 0 ≤ h) (h1 : h ≤ 4294967295) (l0 : 0 ≤ l) (l1 : l ≤ 4294967295) : bits .or .u64 (h * 4294967296) l = h * 4294967296 + l :=
  u64_or_add 32 _ _ (by omega) (by omega) (by omega) l0 (by omega) (by omega)
set_option maxHeartbeats 4000000 in
set_option maxRecDepth 100000 in
theorem join_any (h l : Int) (w : World) (h0 : 0 ≤ h) (h1 : h ≤ 4294967295) (l0 : 0 ≤ l) (l1 : l ≤ 4294967295) :
    Calls Try.prog 52 #[.int .u32 h, .int .u32 l] w fun e w' => e = .returned (.int .u64 (h * 4294967296 + l)) ∧ Below w.heap.size w w' := by
  have e1 := join_or h l h0 h1 l0 l1
  go_enter Try.func52, Try.ntmps52
  go_wp2
  go_ret
  exact ⟨rfl, Below.refl _ _⟩
set_option maxHeartbeats 4000000 in
set_option maxRecDepth 100000 in
theorem rjoin_any (h l : Int) (w : World) (h0 : 0 ≤ h) (h1 : h ≤ 4294967295) (l0 : 0 ≤ l) (l1 : l ≤ 4294967295) :
    Calls Try.prog 69 #[.int .u32 h, .int .u32 l] w fun e w' => e = .returned (.int .u64 (h * 4294967296 + l)) ∧ Below w.heap.size w w' := by
  go_enter Try.func69, Try.ntmps69
  go_wp2
  go_ret
  exact ⟨rfl, Below.refl _ _⟩
end Go.Proofs.Ytaihebdjhbnhoaa
