/- Words of 64 bits and their halves, in the program and in the document. -/
import Derived.Test.YtdhgcmodlikckaaW0
import Derived.Test.YtdhgcmodlikckaaProg
import Derived.Laws.Externs
import Derived.Shelf.Spec.BitsCarry
import Derived.Shelf.Bits.Mul64
namespace Go.Proofs.Ytdhgcmodlikckaa
open Go.RowKit Go.Shelf
set_option linter.unusedVariables false
set_option linter.unusedSimpArgs false
def addI (a b : Int) : Int := if a + b ≤ 18446744073709551615 then a + b else 18446744073709551615
def subI (a b : Int) : Int := if a < b then 0 else a - b
theorem add64_run (x y s c : Int) (x0 : 0 ≤ x) (y0 : 0 ≤ y) (hs : (x + y) % 18446744073709551616 = s) (hc : (x + y) / 18446744073709551616 = c) (w : World) :
    (callFunc 60 #[.int .u64 x, .int .u64 y, .int .u64 0]).run Try.prog w = .ok (.value (.tuple #[.int .u64 s, .int .u64 c])) w := by
  rw [run_callFunc_extern Try.func60 (by kernel_rfl) (by kernel_rfl) (by kernel_rfl) (e := add64Entry) (by kernel_rfl), run_add64 x y 0 x0 y0 (by omega) (by omega)]
  simp only [Result.andThen, Int.add_zero, hs, hc]
set_option maxHeartbeats 4000000 in
set_option maxRecDepth 100000 in
theorem add_any (a b : Int) (w : World) (h0 : 0 ≤ a) (h1 : a ≤ 18446744073709551615) (k0 : 0 ≤ b) (k1 : b ≤ 18446744073709551615) :
    Calls Try.prog 40 #[.int .u64 a, .int .u64 b] w fun e w' => e = .returned (.int .u64 (addI a b)) ∧ Below w.heap.size w w' := by
  by_cases h : a + b ≤ 18446744073709551615
  · have e1 : a + b = addI a b := by rw [addI, if_pos h]
    have E1 := Lib.hid e1
    clear e1
    have ha := fun w => add64_run a b (a + b) 0 h0 k0 (by omega) (by omega) w
    go_enter Try.func40, Try.ntmps40
    go_wp2_with (simp only [ha])
    go_ret
    exact ⟨ret_int E1.out, Below.refl _ _⟩
  · have e1 : 18446744073709551615 = addI a b := by rw [addI, if_neg h]
    have E1 := Lib.hid e1
    clear e1
    have ha := fun w => add64_run a b (a + b - 18446744073709551616) 1 h0 k0 (by omega) (by omega) w
    go_enter Try.func40, Try.ntmps40
    go_wp2_with (simp only [ha])
    go_ret
    exact ⟨ret_int E1.out, Below.refl _ _⟩
set_option maxHeartbeats 4000000 in
set_option maxRecDepth 100000 in
theorem radd_any (a b : Int) (w : World) (h0 : 0 ≤ a) (h1 : a ≤ 18446744073709551615) (k0 : 0 ≤ b) (k1 : b ≤ 18446744073709551615) :
    Calls Try.prog 37 #[.int .u64 a, .int .u64 b] w fun e w' => e = .returned (.int .u64 (addI a b)) ∧ Below w.heap.size w w' := by
  by_cases h : a + b ≤ 18446744073709551615
  · have e1 : a + b = addI a b := by rw [addI, if_pos h]
    have E1 := Lib.hid e1
    clear e1
    have g1 : decide (18446744073709551615 - b < a) = false := by simp; omega
    go_enter Try.func37, Try.ntmps37
    go_wp2
    go_ret
    exact ⟨ret_int E1.out, Below.refl _ _⟩
  · have e1 : 18446744073709551615 = addI a b := by rw [addI, if_neg h]
    have E1 := Lib.hid e1
    clear e1
    have g1 : decide (18446744073709551615 - b < a) = true := by simp; omega
    go_enter Try.func37, Try.ntmps37
    go_wp2
    go_ret
    exact ⟨ret_int E1.out, Below.refl _ _⟩
set_option maxHeartbeats 4000000 in
set_option maxRecDepth 100000 in
theorem lo_any (n : Int) (w : World) (h0 : 0 ≤ n) (h1 : n ≤ 18446744073709551615) :
    Calls Try.prog 45 #[.int .u64 n] w fun e w' => e = .returned (.int .u32 (n % 4294967296)) ∧ Below w.heap.size w w' := by
  have e1 : IntKind.u32.wrap n = n % 4294967296 := by rw [IntKind.wrap_u32]
  go_enter Try.func45, Try.ntmps45
  go_wp2
  go_ret
  exact ⟨rfl, Below.refl _ _⟩
set_option maxHeartbeats 4000000 in
set_option maxRecDepth 100000 in
theorem hi_any (n : Int) (w : World) (h0 : 0 ≤ n) (h1 : n ≤ 18446744073709551615) :
    Calls Try.prog 44 #[.int .u64 n] w fun e w' => e = .returned (.int .u32 (n / 4294967296)) ∧ Below w.heap.size w w' := by
  have e1 : IntKind.u32.wrap (n / 4294967296) = n / 4294967296 := by rw [IntKind.wrap_u32]; omega
  go_enter Try.func44, Try.ntmps44
  go_wp2
  go_ret
  exact ⟨rfl, Below.refl _ _⟩
set_option maxHeartbeats 4000000 in
set_option maxRecDepth 100000 in
theorem rlo_any (n : Int) (w : World) (h0 : 0 ≤ n) (h1 : n ≤ 18446744073709551615) :
    Calls Try.prog 62 #[.int .u64 n] w fun e w' => e = .returned (.int .u32 (n % 4294967296)) ∧ Below w.heap.size w w' := by
  go_enter Try.func62, Try.ntmps62
  go_wp2
  go_ret
  exact ⟨rfl, Below.refl _ _⟩
set_option maxHeartbeats 4000000 in
set_option maxRecDepth 100000 in
theorem rhi_any (n : Int) (w : World) (h0 : 0 ≤ n) (h1 : n ≤ 18446744073709551615) :
    Calls Try.prog 63 #[.int .u64 n] w fun e w' => e = .returned (.int .u32 (n / 4294967296)) ∧ Below w.heap.size w w' := by
  go_enter Try.func63, Try.ntmps63
  go_wp2
  go_ret
  exact ⟨rfl, Below.refl _ _⟩
theorem join_or (h l : Int) (h0 : 0 ≤ h) (h1 : h ≤ 4294967295) (l0 : 0 ≤ l) (l1 : l ≤ 4294967295) : bits .or .u64 (h * 4294967296) l = h * 4294967296 + l :=
  u64_or_add 32 _ _ (by omega) (by omega) (by omega) l0 (by omega) (by omega)
set_option maxHeartbeats 4000000 in
set_option maxRecDepth 100000 in
theorem join_any (h l : Int) (w : World) (h0 : 0 ≤ h) (h1 : h ≤ 4294967295) (l0 : 0 ≤ l) (l1 : l ≤ 4294967295) :
    Calls Try.prog 43 #[.int .u32 h, .int .u32 l] w fun e w' => e = .returned (.int .u64 (h * 4294967296 + l)) ∧ Below w.heap.size w w' := by
  have e1 := join_or h l h0 h1 l0 l1
  go_enter Try.func43, Try.ntmps43
  go_wp2
  go_ret
  exact ⟨rfl, Below.refl _ _⟩
set_option maxHeartbeats 4000000 in
set_option maxRecDepth 100000 in
theorem rjoin_any (h l : Int) (w : World) (h0 : 0 ≤ h) (h1 : h ≤ 4294967295) (l0 : 0 ≤ l) (l1 : l ≤ 4294967295) :
    Calls Try.prog 64 #[.int .u32 h, .int .u32 l] w fun e w' => e = .returned (.int .u64 (h * 4294967296 + l)) ∧ Below w.heap.size w w' := by
  go_enter Try.func64, Try.ntmps64
  go_wp2
  go_ret
  exact ⟨rfl, Below.refl _ _⟩
theorem sub64_run (x y s c : Int) (x0 : 0 ≤ x) (y0 : 0 ≤ y) (x1 : x ≤ 18446744073709551615) (y1 : y ≤ 18446744073709551615) (hs : (x - y) % 18446744073709551616 = s) (hc : (if x < y then 1 else 0) = c) (w : World) :
    (callFunc 56 #[.int .u64 x, .int .u64 y, .int .u64 0]).run Try.prog w = .ok (.value (.tuple #[.int .u64 s, .int .u64 c])) w := by
  obtain ⟨X, rfl⟩ := Int.eq_ofNat_of_zero_le x0
  obtain ⟨Y, rfl⟩ := Int.eq_ofNat_of_zero_le y0
  have hr := run_sub64 (P := Try.prog) X Y 0 (by omega) w
  rw [run_callFunc_extern Try.func56 (by kernel_rfl) (by kernel_rfl) (by kernel_rfl) (e := sub64Entry) (by kernel_rfl)]
  refine (congrArg (fun r : Result Value => r.andThen _) hr).trans ?_
  have e1 : (((X + 18446744073709551616 - Y - 0) % 18446744073709551616 : Nat) : Int) = s := by omega
  have e2 : (((if X < Y + 0 then 1 else 0 : Nat)) : Int) = c := by
    rw [← hc]
    by_cases h : X < Y
    · rw [if_pos (by omega), if_pos (by omega)]; rfl
    · rw [if_neg (by omega), if_neg (by omega)]; rfl
  rw [e1, e2]
  rfl
def mulRen : Go.Shelf.Ren := ⟨fun | 264 => 55 | n => n, fun | 53 => 23 | 46 => 101 | n => n, fun | n => n⟩
theorem mulLays : Go.Proofs.Lays.n264 Try.prog mulRen := {
  mixed := by kernel_rfl
  f264 := Try.func55.trans (congrArg some (by kernel_rfl))
  t46 := Try.underlying101
  a46 := Try.isAgg101
  z46 := Try.sizeOf101
  v46 := Try.zeroValue101
  t53 := Try.underlying23
  a53 := Try.isAgg23
  z53 := Try.sizeOf23
  v53 := Try.zeroValue23 }
theorem mul64_any (x y : Nat) (hx : x < 18446744073709551616) (hy : y < 18446744073709551616) (w : World) :
    Calls Try.prog 55 #[.int .u64 x, .int .u64 y] w fun e w' => e = .returned (.tuple #[.int .u64 ((x * y / 18446744073709551616 : Nat) : Int), .int .u64 ((x * y % 18446744073709551616 : Nat) : Int)]) ∧ w' = w := Any.bits_Mul64 mulLays x y hx hy w
end Go.Proofs.Ytdhgcmodlikckaa
