/- Same of two lists of handles. -/
import Derived.Test.YtelnembjcgkiaaaDoorPoV
namespace Go.Proofs.YtelnembjcgkiaaaDoor
open Go.RowKit
set_option linter.unusedVariables false
set_option linter.unusedSimpArgs false

theorem take_step {L M : List Int} {k : Nat} (h : L.take k = M.take k) (h1 : k < L.length) (h2 : k < M.length) (e : L[k] = M[k]) : L.take (k + 1) = M.take (k + 1) := by
  rw [List.take_succ_eq_append_getElem h1, List.take_succ_eq_append_getElem h2, h, e]
set_option maxHeartbeats 8000000 in
set_option maxRecDepth 100000 in
theorem sameH_any (L M : List Int) (v u : Value) (ok ok' : Nat → Prop) (w : World) (hv : Lst .u64 w v L ok) (hu : Lst .u64 w u M ok') (hl : L.length ≤ 1000000000) (hm : M.length ≤ 1000000000) :
    Calls Tryd.prog 38 #[v, u] w fun e w' => e = .returned (.bool (decide (L = M))) ∧ Below w.heap.size w w' := by
  obtain ⟨a, cap, rfl, hc1, hc2, hcell⟩ := hv
  obtain ⟨a', cap', rfl, hd1, hd2, hcell'⟩ := hu
  have HC := Lib.hid hcell
  have HD := Lib.hid hcell'
  obtain ⟨len, hlen⟩ : ∃ n : Nat, L.length = n := ⟨_, rfl⟩
  obtain ⟨lem, hlem⟩ : ∃ n : Nat, M.length = n := ⟨_, rfl⟩
  have HL := Lib.hid hlen
  have HM := Lib.hid hlem
  rw [hlen] at hc1 hl ⊢
  rw [hlem] at hd1 hm ⊢
  clear hcell hcell' hlen hlem hc1 hc2 hd1 hd2
  by_cases hne : len = lem
  · subst hne
    have e0 : ((len : Int) != (len : Int)) = false := by simp
    go_enter Tryd.func38, Tryd.ntmps38
    go_wp2_with fail
    go_loopw [5] (fun v wr => ∃ k : Nat, v = .int .i64 k ∧ k ≤ len ∧ L.take k = M.take k ∧ Below w.heap.size w wr) (fun v _ => len - (intOf v).toNat)
    case atStart => exact ⟨0, rfl, by omega, rfl, Below.refl _ _⟩
    case round =>
      obtain ⟨k, rfl, hk, ht, hB⟩ := hrel
      have HB := Lib.hid hB
      have HT := Lib.hid ht
      clear hB ht
      by_cases hlt : k < len
      · have g1 : decide ((k : Int) < (len : Int)) = true := dec_t (by omega)
        have hk1 : k < L.length := by rw [HL.out]; exact hlt
        have hk2 : k < M.length := by rw [HM.out]; exact hlt
        obtain ⟨p, rfl, hp, _, hcl⟩ := HC.out (by omega)
        obtain ⟨q, rfl, hq, _, hcm⟩ := HD.out (by omega)
        have cx : ∀ x : Ext wr.heap.size wr, x.world.cell? (p.add k) = some (.int .u64 L[k]) := fun x => ((below_then HB.out x.ok).cell (p := p.add k) (by rw [addr_add_block]; exact hp)).trans (hcl k hk1)
        have cy : ∀ x : Ext wr.heap.size wr, x.world.cell? (q.add k) = some (.int .u64 M[k]) := fun x => ((below_then HB.out x.ok).cell (p := q.add k) (by rw [addr_add_block]; exact hq)).trans (hcm k hk2)
        have hki : (k : Int) < (len : Int) := by omega
        have hk0 : (0 : Int) ≤ (k : Int) := by omega
        have w1 : wrap64 ((k : Int) + 1) = ((k + 1 : Nat) : Int) := by unfold wrap64; omega
        have HW := Lib.hid w1
        obtain ⟨A, hA⟩ : ∃ A : Int, L[k] = A := ⟨_, rfl⟩
        obtain ⟨B, hB⟩ : ∃ B : Int, M[k] = B := ⟨_, rfl⟩
        rw [hA] at cx
        rw [hB] at cy
        have HE := Lib.hid (And.intro hA hB)
        clear hA hB hcl hcm w1
        refine wp_start (w := wr) ?_
        intro x
        cases hne : (A != B) with
        | true =>
          go_upto_region 6 with fail
          refine wp_region_ext _ (by kernel_rfl) (by kernel_rfl) ?_
          repeat (go_big_quiet_step (fail))
          refine wpQuiet_nil ?_
          rintro _ ⟨y, rfl⟩
          go_wp2_with fail
          go_ret
          refine ⟨?_, below_then HB.out y.ok⟩
          have hAB : A ≠ B := by simpa using hne
          have : L ≠ M := fun e => hAB (by rw [← HE.out.1, ← HE.out.2]; subst e; rfl)
          rw [decide_eq_false this]
          rfl
        | false =>
          go_upto_region 6 with fail
          refine wp_region_ext _ (by kernel_rfl) (by kernel_rfl) ?_
          repeat (go_big_quiet_step (fail))
          refine wpQuiet_nil ?_
          rintro _ ⟨y, rfl⟩
          have HY := Lib.hid y.ok
          go_wp2_with fail
          go_roundw
          case measure => simp [intOf]; omega
          case rel =>
            have hAB : A = B := by simpa using hne
            refine ⟨k + 1, by simp, by omega, take_step HT.out hk1 hk2 (by rw [HE.out.1, HE.out.2, hAB]), below_then HB.out HY.out⟩
      · have g1 : decide ((k : Int) < (len : Int)) = false := dec_f (by omega)
        have hkl : k = len := by omega
        have hLM : L = M := by
          have := HT.out
          rw [hkl, ← HL.out, List.take_length, HL.out, ← HM.out, List.take_length] at this
          exact this
        have HLM := Lib.hid hLM
        clear hLM hkl
        go_wp2_with fail
        go_ret
        exact ⟨by rw [decide_eq_true HLM.out]; rfl, HB.out⟩
  · have e0 : ((len : Int) != (lem : Int)) = true := by simp; omega
    have hLM : L ≠ M := fun e => hne (by rw [← HL.out, ← HM.out, e])
    have HLM := Lib.hid hLM
    clear hLM hne
    go_enter Tryd.func38, Tryd.ntmps38
    go_wp2_with fail
    go_ret
    exact ⟨by rw [decide_eq_false HLM.out]; rfl, Below.refl _ _⟩
end Go.Proofs.YtelnembjcgkiaaaDoor
