/- Chains at keys of two numbers: Push refused; Remove. -/
import Derived.Test.YtelnembjcgkiaaaChE
namespace Go.Proofs.Ytelnembjcgkiaaa
open Go.RowKit
set_option linter.unusedVariables false
set_option linter.unusedSimpArgs false

set_option maxHeartbeats 8000000 in
set_option maxRecDepth 100000 in
theorem push_no (b bm bl n : Nat) (L : List ((Int × Int) × Nat)) (lk : Nat → Lk (Int × Int)) (w : World) (hA : ChAt w b bm bl n L lk) (hn : n ≤ 4096) (k1 k2 i : Int) (h : i < 0 ∨ (n : Int) ≤ i ∨ inB n lk i = true) :
    Calls Try.prog 8 #[.pointer (some ⟨b, 0, none⟩), .agg #[.int .i64 k1, .int .i64 k2], .int .i64 i] w fun e w' => e = .returned (.bool false) ∧ Below w.heap.size w w' := by
  obtain ⟨M, c, cp, q⟩ := hA
  have c1 : w.cell? ⟨b, 1, none⟩ = some (.slice (some ⟨bl, 0, none⟩) n cp) := q.row.cell (i := 1) rfl
  have hbl : b < w.heap.size := q.row.lt
  have hbll : bl < w.heap.size := q.lks.lt
  by_cases h1 : i < 0
  · have d1 := dec_t h1
    clear q h
    go_enter Try.func8, Try.ntmps8
    go_wp2_with fail
    go_ret
    exact ⟨rfl, below_new (Below.refl _ _) _⟩
  · have d1 := dec_f h1
    by_cases h2 : (n : Int) ≤ i
    · have d2 := dec_t h2
      clear q h
      go_enter Try.func8, Try.ntmps8
      go_wp2_with fail
      go_ret
      exact ⟨rfl, below_new (Below.refl _ _) _⟩
    · have d2 := dec_f h2
      obtain ⟨j, rfl⟩ := Int.eq_ofNat_of_zero_le (show 0 ≤ i by omega)
      have hj : j < n := by omega
      have hin : (lk j).inn = true := by
        have h3 := (h.resolve_left h1).resolve_left h2
        unfold inB at h3
        rw [if_pos ⟨by omega, by omega⟩, Int.toNat_natCast] at h3
        exact h3
      have c2 : w.cell? ⟨bl, j * 5 + 2, none⟩ = some (.bool true) := lk_cell (j := 2) q hj (by decide) (by rw [← hin]; rfl)
      clear q h
      go_enter Try.func8, Try.ntmps8
      go_wp2_with fail
      go_ret
      exact ⟨rfl, below_new (Below.refl _ _) _⟩
end Go.Proofs.Ytelnembjcgkiaaa
