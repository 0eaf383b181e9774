/- The document's Has and Meet of regions; the laws BusMeets. -/
import Derived.Test.YtgkklgebgabncaaBuG
namespace Go.Proofs.Ytgkklgebgabncaa
open Go.RowKit
set_option linter.unusedVariables false
set_option linter.unusedSimpArgs false
open Go.Lib Go.Sort
theorem hasB_t {p1 p2 x : Int} (hp : R32 (p1, p2)) (x0 : 0 ≤ x) (x1 : x ≤ 4294967295) (h1 : p1 ≤ x) (h2 : x - p1 < p2) : hasB (p1, p2) x = true := by
  have a := hp.a0
  have b := hp.a1
  have c := hp.b0
  have d := hp.b1
  unfold hasB meetB endI
  rw [decide_eq_true_eq]
  dsimp only at *
  omega
theorem hasB_f {p1 p2 x : Int} (hp : R32 (p1, p2)) (x0 : 0 ≤ x) (x1 : x ≤ 4294967295) (h : ¬ (p1 ≤ x ∧ x - p1 < p2)) : hasB (p1, p2) x = false := by
  have a := hp.a0
  have b := hp.a1
  have c := hp.b0
  have d := hp.b1
  unfold hasB meetB endI
  rw [decide_eq_false_iff_not]
  dsimp only at *
  omega
theorem meetB_iff {p1 p2 q1 q2 : Int} (hp : R32 (p1, p2)) (hq : R32 (q1, q2)) : meetB (p1, p2) (q1, q2) = true ↔ (0 < p2 ∧ 0 < q2 ∧ ((p1 ≤ q1 ∧ q1 - p1 < p2) ∨ (q1 ≤ p1 ∧ p1 - q1 < q2))) := by
  have a := hp.a0
  have b := hp.a1
  have c := hp.b0
  have d := hp.b1
  have a' := hq.a0
  have b' := hq.a1
  have c' := hq.b0
  have d' := hq.b1
  unfold meetB endI
  rw [decide_eq_true_eq]
  dsimp only at *
  omega
theorem meetB_symm (p q : Int × Int) : meetB q p = meetB p q := by
  unfold meetB
  congr 1
  rw [Int.max_comm, Int.min_comm]
set_option maxHeartbeats 8000000 in
set_option maxRecDepth 100000 in
theorem rhas_any (p1 p2 x : Int) (w : World) (hp : R32 (p1, p2)) (x0 : 0 ≤ x) (x1 : x ≤ 4294967295) :
    Calls Try.prog 29 #[.agg #[.int .u32 p1, .int .u32 p2], .int .u32 x] w fun e w' => e = .returned (.bool (hasB (p1, p2) x)) ∧ Below w.heap.size w w' := by
  have a := hp.a0
  have b := hp.a1
  have c := hp.b0
  have d := hp.b1
  dsimp only at a b c d
  by_cases h1 : p1 ≤ x
  · have hs : IntKind.u32.wrap (x - p1) = x - p1 := by rw [IntKind.wrap_u32]; omega
    have d1 := dec_t h1
    by_cases h2 : x - p1 < p2
    · have d2 := dec_t h2
      rw [hasB_t hp x0 x1 h1 h2]
      go_enter Try.func29, Try.ntmps29
      go_wp2_with fail
      go_ret
      exact ⟨rfl, below_new (Below.refl _ _) _⟩
    · have d2 := dec_f h2
      rw [hasB_f hp x0 x1 (fun h => h2 h.2)]
      go_enter Try.func29, Try.ntmps29
      go_wp2_with fail
      go_ret
      exact ⟨rfl, below_new (Below.refl _ _) _⟩
  · have d1 := dec_f h1
    rw [hasB_f hp x0 x1 (fun h => h1 h.1)]
    go_enter Try.func29, Try.ntmps29
    go_wp2_with fail
    go_ret
    exact ⟨rfl, below_new (Below.refl _ _) _⟩
set_option maxHeartbeats 8000000 in
set_option maxRecDepth 100000 in
theorem rmeet_any (p1 p2 q1 q2 : Int) (w : World) (hp : R32 (p1, p2)) (hq : R32 (q1, q2)) :
    Calls Try.prog 27 #[.agg #[.int .u32 p1, .int .u32 p2], .agg #[.int .u32 q1, .int .u32 q2]] w fun e w' => e = .returned (.bool (meetB (p1, p2) (q1, q2))) ∧ Below w.heap.size w w' := by
  have a := hp.a0
  have b := hp.a1
  have c := hp.b0
  have d := hp.b1
  have a' := hq.a0
  have b' := hq.a1
  have c' := hq.b0
  have d' := hq.b1
  dsimp only at a b c d a' b' c' d'
  have hm := meetB_iff hp hq
  obtain ⟨M, hM⟩ : ∃ M, meetB (p1, p2) (q1, q2) = M := ⟨_, rfl⟩
  rw [hM] at hm ⊢
  go_enter Try.func27, Try.ntmps27
  go_upto_region 1 with fail
  refine wp_box2 ?_
  intro W hB hb1 hb2 _
  obtain ⟨hk1, hf1⟩ := Ext.cells hb1
  obtain ⟨hk2, hf2⟩ := Ext.cells hb2
  by_cases h1 : 0 < p2
  · have d1 := dec_t h1
    by_cases h2 : 0 < q2
    · have d2 := dec_t h2
      by_cases h3 : hasB (p1, p2) q1 = true
      · have hMt : M = true := by
          have := has_in hp a' b' h3
          exact hm.2 ⟨h1, h2, Or.inl ⟨this.1.2.1, by omega⟩⟩
        refine wp_start (w := W) ?_
        intro x
        go_wp2_with (go_at_call 29; refine (rhas_any _ _ _ _ (by assumption) (by assumption) (by assumption)).mono ?_; rintro e wr ⟨rfl, hbr⟩; obtain ⟨y, rfl⟩ := Ext.step _ hbr; clear hbr; rw [h3])
        go_ret
        exact ⟨ret_bool hMt.symm, below_then hB (Ext.ok _)⟩
      · have h3' : hasB (p1, p2) q1 = false := by simpa using h3
        obtain ⟨T, hT⟩ : ∃ T, hasB (q1, q2) p1 = T := ⟨_, rfl⟩
        have hMt : M = T := by
          cases T with
          | true =>
            have := has_in hq a b hT
            exact hm.2 ⟨h1, h2, Or.inr ⟨this.1.2.1, by omega⟩⟩
          | false =>
            cases M with
            | false => rfl
            | true =>
              rcases (hm.1 rfl).2.2 with h | h
              · rw [hasB_t hp a' b' h.1 h.2] at h3'; cases h3'
              · rw [hasB_t hq a b h.1 h.2] at hT; cases hT
        refine wp_start (w := W) ?_
        intro x
        go_wp2_with (go_at_call 29; refine (rhas_any _ _ _ _ (by assumption) (by assumption) (by assumption)).mono ?_; rintro e wr ⟨rfl, hbr⟩; obtain ⟨y, rfl⟩ := Ext.step _ hbr; clear hbr; first | rw [h3'] | rw [hT])
        go_ret
        exact ⟨ret_bool hMt.symm, below_then hB (Ext.ok _)⟩
    · have d2 := dec_f h2
      have hMf : M = false := by
        cases M with
        | false => rfl
        | true => exact absurd (hm.1 rfl).2.1 h2
      refine wp_start (w := W) ?_
      intro x
      go_wp2_with fail
      go_ret
      exact ⟨by first | exact ret_bool hMf.symm | exact ret_bool rfl, below_then hB (Ext.ok _)⟩
  · have d1 := dec_f h1
    have hMf : M = false := by
      cases M with
      | false => rfl
      | true => exact absurd (hm.1 rfl).1 h1
    refine wp_start (w := W) ?_
    intro x
    go_wp2_with fail
    go_ret
    exact ⟨by first | exact ret_bool hMf.symm | exact ret_bool rfl, below_then hB (Ext.ok _)⟩
theorem meet_val (p1 p2 q1 q2 : Int) (hp : R32 (p1, p2)) (hq : R32 (q1, q2)) (M : Bool) (h : meetB (p1, p2) (q1, q2) = M) (w : World) : Calls Try.prog 26 #[.agg #[.int .u32 p1, .int .u32 p2], .agg #[.int .u32 q1, .int .u32 q2]] w fun e w' => e = .returned (.bool M) ∧ Below w.heap.size w w' := h ▸ meet_any p1 p2 q1 q2 hp hq w
theorem rmeet_val (p1 p2 q1 q2 : Int) (hp : R32 (p1, p2)) (hq : R32 (q1, q2)) (M : Bool) (h : meetB (p1, p2) (q1, q2) = M) (w : World) : Calls Try.prog 27 #[.agg #[.int .u32 p1, .int .u32 p2], .agg #[.int .u32 q1, .int .u32 q2]] w fun e w' => e = .returned (.bool M) ∧ Below w.heap.size w w' := h ▸ rmeet_any p1 p2 q1 q2 w hp hq
theorem has_val (p1 p2 x : Int) (hp : R32 (p1, p2)) (x0 : 0 ≤ x) (x1 : x ≤ 4294967295) (M : Bool) (h : hasB (p1, p2) x = M) (w : World) : Calls Try.prog 28 #[.agg #[.int .u32 p1, .int .u32 p2], .int .u32 x] w fun e w' => e = .returned (.bool M) ∧ Below w.heap.size w w' := h ▸ has_any p1 p2 x hp x0 x1 w
theorem rhas_val (p1 p2 x : Int) (hp : R32 (p1, p2)) (x0 : 0 ≤ x) (x1 : x ≤ 4294967295) (M : Bool) (h : hasB (p1, p2) x = M) (w : World) : Calls Try.prog 29 #[.agg #[.int .u32 p1, .int .u32 p2], .int .u32 x] w fun e w' => e = .returned (.bool M) ∧ Below w.heap.size w w' := h ▸ rhas_any p1 p2 x w hp x0 x1
set_option maxHeartbeats 8000000 in
set_option maxRecDepth 100000 in
theorem BusMeets_walk (a1 a2 b1 b2 x : Int) (W : World) (a10 : 0 ≤ a1) (a11 : a1 ≤ 4294967295) (a20 : 0 ≤ a2) (a21 : a2 ≤ 4294967295) (b10 : 0 ≤ b1) (b11 : b1 ≤ 4294967295) (b20 : 0 ≤ b2) (b21 : b2 ≤ 4294967295) (x0 : 0 ≤ x) (x1 : x ≤ 4294967295) :
    Calls Try.prog 5 #[.agg #[.int .u32 a1, .int .u32 a2], .agg #[.int .u32 b1, .int .u32 b2], .int .u32 x] W fun e w' => e = .returned (.bool true) ∧ Below W.heap.size W w' := by
  have hp : R32 (a1, a2) := ⟨a10, a11, a20, a21⟩
  have hq : R32 (b1, b2) := ⟨b10, b11, b20, b21⟩
  obtain ⟨M, hM⟩ : ∃ M, meetB (a1, a2) (b1, b2) = M := ⟨_, rfl⟩
  obtain ⟨H, hH⟩ : ∃ H, hasB (a1, a2) x = H := ⟨_, rfl⟩
  have hM2 : meetB (b1, b2) (a1, a2) = M := (meetB_symm _ _).trans hM
  go_enter Try.func5, Try.ntmps5
  go_upto_region 1 with fail
  refine wp_box2 ?_
  intro W1 hB hb1 hb2 _
  obtain ⟨hk1, hf1⟩ := Ext.cells hb1
  obtain ⟨hk2, hf2⟩ := Ext.cells hb2
  refine wp_start (w := W1) ?_
  intro x
  refine wp_region_ext _ (by kernel_rfl) (by kernel_rfl) ?_
  repeat (go_big_quiet_step ((first | (go_at_call 25; exact Ext.call (known03 _)) | (go_at_call 26; exact Ext.call (meet_val _ _ _ _ (by assumption) (by assumption) _ (by assumption) _)) | (go_at_call 27; exact Ext.call (rmeet_val _ _ _ _ (by assumption) (by assumption) _ (by assumption) _)) | (go_at_call 28; exact Ext.call (has_val _ _ _ (by assumption) (by assumption) (by assumption) _ (by assumption) _)) | (go_at_call 29; exact Ext.call (rhas_val _ _ _ (by assumption) (by assumption) (by assumption) _ (by assumption) _)))))
  refine wpQuiet_nil ?_
  rintro _ ⟨y, rfl⟩
  go_wp2_with fail
  go_ret
  exact ⟨rfl, below_then hB y.ok⟩
end Go.Proofs.Ytgkklgebgabncaa
