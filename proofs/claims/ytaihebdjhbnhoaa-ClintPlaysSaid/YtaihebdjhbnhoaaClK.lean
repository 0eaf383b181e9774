/- The document's clint: Load. -/
import Derived.Test.YtaihebdjhbnhoaaClJ
import Derived.Test.YtaihebdjhbnhoaaClH
namespace Go.Proofs.Ytaihebdjhbnhoaa
open Go.RowKit
set_option linter.unusedVariables false
set_option linter.unusedSimpArgs false

/-- No register of the first harts. -/
def clear (k : Nat) (off : Int) : Prop := ∀ j : Nat, j < k → off ≠ 4 * (j : Int) ∧ off ≠ 16384 + 8 * (j : Int) ∧ off ≠ 16388 + 8 * (j : Int)
theorem clear_succ {k : Nat} {off : Int} (h : clear k off) (h1 : off ≠ 4 * (k : Int)) (h2 : off ≠ 16384 + 8 * (k : Int)) (h3 : off ≠ 16388 + 8 * (k : Int)) : clear (k + 1) off := by
  intro j hj
  rcases Nat.lt_or_ge j k with q | q
  · exact h j q
  · obtain rfl : j = k := by omega
    exact ⟨h1, h2, h3⟩
theorem pl_clear {N : Nat} {off : Int} (h : clear N off) (h1 : off ≠ 49144) (h2 : off ≠ 49148) : pl N off = none := by
  induction N with
  | zero => simp only [pl]; rw [if_neg h2, if_neg h1]
  | succ k ih =>
    have q := h k (by omega)
    simp only [pl]
    rw [if_neg q.2.2, if_neg q.2.1, if_neg q.1]
    exact ih (fun j hj => h j (by omega))
theorem pl_soft {N h : Nat} (hh : h < N) (hN : N ≤ 8) : pl N (4 * (h : Int)) = some (1, (h : Int)) := by
  induction N with
  | zero => omega
  | succ k ih =>
    simp only [pl]
    rw [if_neg (by omega), if_neg (by omega)]
    by_cases e : h = k
    · subst e; rw [if_pos rfl]
    · rw [if_neg (by omega)]
      exact ih (by omega) (by omega)
theorem pl_time {N : Nat} (hN : N ≤ 8) : pl N 49144 = some (4, 0) ∧ pl N 49148 = some (5, 0) := by
  induction N with
  | zero => exact ⟨rfl, rfl⟩
  | succ k ih =>
    obtain ⟨i1, i2⟩ := ih (by omega)
    simp only [pl]
    refine ⟨?_, ?_⟩
    · rw [if_neg (by omega), if_neg (by omega), if_neg (by omega)]; exact i1
    · rw [if_neg (by omega), if_neg (by omega), if_neg (by omega)]; exact i2
set_option maxHeartbeats 8000000 in
set_option maxRecDepth 100000 in
theorem rload_any (c : Cl) (ok : c.ok) (off : Int) (w : World) (o0 : 0 ≤ off) (o1 : off ≤ 4294967295) :
    Calls Try.prog 36 #[.agg c.ref, .int .u32 off] w fun e w' => e = .returned (.tuple #[.int .u32 (loadI c off).1, .int .i64 (loadI c off).2]) ∧ Below w.heap.size w w' := by
  by_cases h : off % 4 = 0
  · have g0 : (off % 4 != 0) = false := bne_f h
    have hl : loadI c off = match pl c.n off with | some p => (wordI c p, 0) | none => (0, 10) := by unfold loadI; rw [if_neg (by omega)]; rfl
    have HL := Lib.hid hl
    have hn := ok.n1
    have HH := Lib.hid h
    clear hl h
    by_cases h1 : off = 49144
    · have HE : Hid (loadI c off = (c.time % 4294967296, 0)) := by rw [HL.out, h1, (pl_time hn).1]; exact rfl
      have g1 : (off == 49144) = true := beq_t h1
      clear h1
      go_enter Try.func36, Try.ntmps36
      go_upto_region 1 with (fail)
      refine wp_box ?_
      intro W hB b0 hW
      have R0 : RowAt W w.heap.size (rcells c.time (fun i => c.cmp i % 4294967296) (fun i => c.cmp i / 4294967296) c.soft c.n) 57 := b0
      have e0 : W.cell? ⟨w.heap.size, 0, none⟩ = some (.int .u64 c.time) := RowAt.cell R0 rfl
      have e25 : W.cell? ⟨w.heap.size, 25, none⟩ = some (.int .i64 c.n) := RowAt.cell R0 rfl
      go_wp2_with (go_at_call 60; refine (rlo_any _ _ ok.t0 ok.t1).mono ?_; rintro e w2 ⟨rfl, hb1⟩)
      go_ret2
      exact ⟨by rw [HE.out]; rfl, below_then hB hb1⟩
    · have g1 : (off == 49144) = false := beq_f h1
      by_cases h2 : off = 49148
      · have HE : Hid (loadI c off = (c.time / 4294967296, 0)) := by rw [HL.out, h2, (pl_time hn).2]; exact rfl
        have g2 : (off == 49148) = true := beq_t h2
        clear h1 h2
        go_enter Try.func36, Try.ntmps36
        go_upto_region 1 with (fail)
        refine wp_box ?_
        intro W hB b0 hW
        have R0 : RowAt W w.heap.size (rcells c.time (fun i => c.cmp i % 4294967296) (fun i => c.cmp i / 4294967296) c.soft c.n) 57 := b0
        have e0 : W.cell? ⟨w.heap.size, 0, none⟩ = some (.int .u64 c.time) := RowAt.cell R0 rfl
        have e25 : W.cell? ⟨w.heap.size, 25, none⟩ = some (.int .i64 c.n) := RowAt.cell R0 rfl
        go_wp2_with (go_at_call 61; refine (rhi_any _ _ ok.t0 ok.t1).mono ?_; rintro e w2 ⟨rfl, hb1⟩)
        go_ret2
        exact ⟨by rw [HE.out]; rfl, below_then hB hb1⟩
      · have g2 : (off == 49148) = false := beq_f h2
        have H1 : Hid (off ≠ 49144) := h1
        have H2 : Hid (off ≠ 49148) := h2
        clear h1 h2
        go_enter Try.func36, Try.ntmps36
        go_upto_region 1 with (fail)
        refine wp_box ?_
        intro W hB b0 hW
        have R0 : RowAt W w.heap.size (rcells c.time (fun i => c.cmp i % 4294967296) (fun i => c.cmp i / 4294967296) c.soft c.n) 57 := b0
        have e0 : W.cell? ⟨w.heap.size, 0, none⟩ = some (.int .u64 c.time) := RowAt.cell R0 rfl
        have e25 : W.cell? ⟨w.heap.size, 25, none⟩ = some (.int .i64 c.n) := RowAt.cell R0 rfl
        have HR0 := Lib.hid R0
        clear R0 b0
        go_wp2_with fail
        go_loop [6] (fun i => ∃ k : Nat, k ≤ c.n ∧ i = .int .i64 k ∧ clear k off) (fun i => c.n - (intOf i).toNat)
        case atStart => exact ⟨0, by omega, rfl, fun j hj => absurd hj (by omega)⟩
        case round =>
          obtain ⟨k, hk, rfl, hcl⟩ := hrel
          have HCL := Lib.hid hcl
          clear hcl
          have hn8 : (c.n : Int) ≤ 8 := by omega
          by_cases hlt : k < c.n
          · have t0 : decide ((k : Int) < (c.n : Int)) = true := dec_t (by omega)
            have t0' : decide (k < c.n) = true := dec_t hlt
            have k0 : (0 : Int) ≤ (k : Int) := by omega
            have k8 : (k : Int) < 8 := by omega
            have hk8 : k < 8 := by omega
            have s0 := HR0.out.cell (rc_lo _ _ _ _ _ hk8)
            have s1 := HR0.out.cell (rc_hi _ _ _ _ _ hk8)
            have s2 := HR0.out.cell (rc_so _ _ _ _ _ hk8)
            by_cases a1 : off = 4 * (k : Int)
            · have HE : Hid (loadI c off = (c.soft k, 0)) := by rw [HL.out, a1, pl_soft hlt hn]; exact rfl
              have g3 : (off == 4 * (k : Int)) = true := beq_t a1
              clear a1
              go_wp2_with fail
              go_ret2
              exact ⟨by rw [HE.out]; rfl, hB⟩
            · have g3 : (off == 4 * (k : Int)) = false := beq_f a1
              have A1 : Hid (off ≠ 4 * (k : Int)) := a1
              clear a1
              by_cases a2 : off = 16384 + 8 * (k : Int)
              · have HE : Hid (loadI c off = (c.cmp k % 4294967296, 0)) := by rw [HL.out, a2, pl_low hlt hn]; exact rfl
                have g4 : (off == 16384 + 8 * (k : Int)) = true := beq_t a2
                clear a2
                go_wp2_with fail
                go_ret2
                exact ⟨by rw [HE.out]; rfl, hB⟩
              · have g4 : (off == 16384 + 8 * (k : Int)) = false := beq_f a2
                have A2 : Hid (off ≠ 16384 + 8 * (k : Int)) := a2
                clear a2
                by_cases a3 : off = 16388 + 8 * (k : Int)
                · have HE : Hid (loadI c off = (c.cmp k / 4294967296, 0)) := by rw [HL.out, a3, pl_high hlt hn]; exact rfl
                  have g5 : (off == 16388 + 8 * (k : Int)) = true := beq_t a3
                  clear a3
                  go_wp2_with fail
                  go_ret2
                  exact ⟨by rw [HE.out]; rfl, hB⟩
                · have g5 : (off == 16388 + 8 * (k : Int)) = false := beq_f a3
                  have A3 : Hid (off ≠ 16388 + 8 * (k : Int)) := a3
                  clear a3
                  go_wp2_with fail
                  go_round
                  case measure => simp [intOf]; omega
                  case rel => exact ⟨k + 1, by omega, by simp, clear_succ HCL.out A1.out A2.out A3.out⟩
          · obtain rfl : k = c.n := by omega
            have t0 : decide ((c.n : Int) < (c.n : Int)) = false := dec_f (by omega)
            have t0' : decide (c.n < c.n) = false := dec_f hlt
            have HE : Hid (loadI c off = (0, 10)) := by rw [HL.out, pl_clear HCL.out H1.out H2.out]; exact rfl
            go_wp2_with fail
            go_ret2
            exact ⟨by rw [HE.out]; rfl, hB⟩
  · have g0 : (off % 4 != 0) = true := bne_t h
    have HE : Hid (loadI c off = (0, 11)) := by show _ = _; unfold loadI; rw [if_pos h]
    clear h
    go_enter Try.func36, Try.ntmps36
    go_wp2_with fail
    go_ret2
    exact ⟨by rw [HE.out]; rfl, below_new (Below.refl _ _) _⟩
end Go.Proofs.Ytaihebdjhbnhoaa
