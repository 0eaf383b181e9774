/- The clint: a register's place. -/
import Derived.Test.YtaihebdjhbnhoaaClC
namespace Go.Proofs.Ytaihebdjhbnhoaa
open Go.RowKit
set_option linter.unusedVariables false
set_option linter.unusedSimpArgs false

theorem zero_pl (w : World) : (zeroValue 87).run Try.prog w = .ok (.agg #[.int .i64 0, .int .i64 0]) w := by kernel_rfl
set_option maxHeartbeats 8000000 in
set_option maxRecDepth 100000 in
theorem find_nil (off : Int) (w : World) :
    Calls Try.prog 51 #[.pointer none, .int .u32 off] w fun e w' => e = .returned (.tuple #[.agg #[.int .i64 0, .int .i64 0], .int .i64 10]) ∧ Below w.heap.size w w' := by
  go_enter Try.func51, Try.ntmps51
  go_wp2_with fail
  refine bodyPost_ret (v := .tuple #[.agg #[.int .i64 0, .int .i64 0], .int .i64 10]) (by simp [results, Try.results51, go_sem]) rfl ?_
  exact ⟨rfl, below_new (Below.refl _ _) _⟩
set_option maxHeartbeats 8000000 in
set_option maxRecDepth 100000 in
theorem find_odd (b : Nat) (c : Cl) (w : World) (hA : ClAt w b c) (off : Int) (o0 : 0 ≤ off) (h : off % 4 ≠ 0) :
    Calls Try.prog 51 #[.pointer (some ⟨b, 0, none⟩), .int .u32 off] w fun e w' => e = .returned (.tuple #[.agg #[.int .i64 0, .int .i64 0], .int .i64 11]) ∧ Below w.heap.size w w' := by
  have t0 : (off % 4 != 0) = true := bne_t h
  clear h
  go_enter Try.func51, Try.ntmps51
  go_wp2_with fail
  refine bodyPost_ret (v := .tuple #[.agg #[.int .i64 0, .int .i64 0], .int .i64 11]) (by simp [results, Try.results51, go_sem]) rfl ?_
  exact ⟨rfl, below_new (Below.refl _ _) _⟩
set_option maxHeartbeats 8000000 in
set_option maxRecDepth 100000 in
theorem find_some (b : Nat) (c : Cl) (w : World) (hA : ClAt w b c) (hn : c.n ≤ 8) (off : Int) (o0 : 0 ≤ off) (h : off % 4 = 0) (p : Int × Int) (hp : pl c.n off = some p) :
    Calls Try.prog 51 #[.pointer (some ⟨b, 0, none⟩), .int .u32 off] w fun e w' => e = .returned (.tuple #[.agg #[.int .i64 p.1, .int .i64 p.2], .int .i64 0]) ∧ Below w.heap.size w w' := by
  have t0 : (off % 4 != 0) = false := bne_f h
  obtain ⟨p1, p2⟩ := p
  have hin := pl_in hp
  have HA := Lib.hid hA
  have HP := Lib.hid hp
  have HH := Lib.hid h
  have q1 : 1 ≤ p1 := hin.1
  clear h hp hA hin
  go_enter Try.func51, Try.ntmps51
  go_upto_region 6 with (first
    | (go_at_call 67; refine (places_live b c _ (RowAt.alloc HA.out _) hn).mono ?_; rintro e w1 ⟨g, L, k, rfl, hg, hM, hv, hB⟩; have hval : (valL off L).getD (.agg #[.int .i64 0, .int .i64 0]) = .agg #[.int .i64 p1, .int .i64 p2] := (by rw [hv off, HP.out]; exact rfl); have HVAL := Lib.hid hval; have hZ := RowAt.ext (RowAt.new w #[.int .i64 0, .int .i64 0] 87) hB; have z0 := hZ.cell (i := 0) rfl; have z1 := hZ.cell (i := 1) rfl; have zf := fun i => hZ.frozen i; have zlt := hZ.lt; have HZ := Lib.hid hZ; have HM := Lib.hid hM; have HB := Lib.hid (below_then (below_new (Below.refl _ _) _) hB); clear hval hM hv hB hZ)
    | (at_lookup; refine wpList_lookup_at rfl (.tmp 17) (.tmp 18) rfl KU Try.underlying101 (zero_pl _) HM.out rfl off rfl ?_; rw [HVAL.out]))
  have g1 : (p1 == 0) = false := beq_f (by omega)
  go_wp2_with fail
  have R3 := RowAt.alloc ((RowAt.set HZ.out 0 (.int .i64 p1)).set 1 (.int .i64 p2)) (.cells #[.int .i64 p1, .int .i64 p2] 87)
  have e0 : _ = some (Value.int .i64 p1) := R3.cell (i := 0) rfl
  have e1 : _ = some (Value.int .i64 p2) := R3.cell (i := 1) rfl
  refine bodyPost_ret (v := .tuple #[.agg #[.int .i64 p1, .int .i64 p2], .int .i64 0]) (by simp [results, Try.results51, go_sem, e0, e1]) rfl ?_
  exact ⟨rfl, below_new (below_set (below_set HB.out (Nat.le_refl _) _) (Nat.le_refl _) _) _⟩
set_option maxHeartbeats 8000000 in
set_option maxRecDepth 100000 in
theorem find_none (b : Nat) (c : Cl) (w : World) (hA : ClAt w b c) (hn : c.n ≤ 8) (off : Int) (o0 : 0 ≤ off) (h : off % 4 = 0) (hp : pl c.n off = none) :
    Calls Try.prog 51 #[.pointer (some ⟨b, 0, none⟩), .int .u32 off] w fun e w' => e = .returned (.tuple #[.agg #[.int .i64 0, .int .i64 0], .int .i64 10]) ∧ Below w.heap.size w w' := by
  have t0 : (off % 4 != 0) = false := bne_f h
  have HA := Lib.hid hA
  have HP := Lib.hid hp
  have HH := Lib.hid h
  clear h hp hA
  go_enter Try.func51, Try.ntmps51
  go_upto_region 6 with (first
    | (go_at_call 67; refine (places_live b c _ (RowAt.alloc HA.out _) hn).mono ?_; rintro e w1 ⟨g, L, k, rfl, hg, hM, hv, hB⟩; have hval : (valL off L).getD (.agg #[.int .i64 0, .int .i64 0]) = .agg #[.int .i64 0, .int .i64 0] := (by rw [hv off, HP.out]; exact rfl); have HVAL := Lib.hid hval; have hZ := RowAt.ext (RowAt.new w #[.int .i64 0, .int .i64 0] 87) hB; have z0 := hZ.cell (i := 0) rfl; have z1 := hZ.cell (i := 1) rfl; have zf := fun i => hZ.frozen i; have zlt := hZ.lt; have HZ := Lib.hid hZ; have HM := Lib.hid hM; have HB := Lib.hid (below_then (below_new (Below.refl _ _) _) hB); clear hval hM hv hB hZ)
    | (at_lookup; refine wpList_lookup_at rfl (.tmp 17) (.tmp 18) rfl KU Try.underlying101 (zero_pl _) HM.out rfl off rfl ?_; rw [HVAL.out]))
  go_wp2_with fail
  have R3 := RowAt.alloc ((RowAt.set HZ.out 0 (.int .i64 0)).set 1 (.int .i64 0)) (.cells #[.int .i64 0, .int .i64 0] 87)
  have e0 : _ = some (Value.int .i64 0) := R3.cell (i := 0) rfl
  have e1 : _ = some (Value.int .i64 0) := R3.cell (i := 1) rfl
  refine bodyPost_ret (v := .tuple #[.agg #[.int .i64 0, .int .i64 0], .int .i64 10]) (by simp [results, Try.results51, go_sem, e0, e1]) rfl ?_
  exact ⟨rfl, below_new (below_set (below_set HB.out (Nat.le_refl _) _) (Nat.le_refl _) _) _⟩
end Go.Proofs.Ytaihebdjhbnhoaa
