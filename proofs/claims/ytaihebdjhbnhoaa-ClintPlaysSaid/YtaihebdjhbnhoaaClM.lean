/- A clint is like the document's. -/
import Derived.Test.YtaihebdjhbnhoaaClL
namespace Go.Proofs.Ytaihebdjhbnhoaa
open Go.RowKit
set_option linter.unusedVariables false
set_option linter.unusedSimpArgs false

theorem soft_is (b : Nat) (c : Cl) (w : World) (hA : ClAt w b c) (hn : c.n ≤ 8) (h : Int) {s : Bool} (hs : softB c h = s) :
    Calls Try.prog 43 #[.pointer (some ⟨b, 0, none⟩), .int .i64 h] w fun e w' => e = .returned (.bool s) ∧ Below w.heap.size w w' := by
  have q := soft_live b c w hA hn h
  rw [hs] at q
  exact q
set_option maxHeartbeats 8000000 in
set_option maxRecDepth 100000 in
theorem alike_any (b : Nat) (c : Cl) (w : World) (hA : ClAt w b c) (ok : c.ok) :
    Calls Try.prog 41 #[.pointer (some ⟨b, 0, none⟩), .agg c.ref] w fun e w' => e = .returned (.bool true) ∧ Below w.heap.size w w' := by
  have hb : b < w.heap.size := RowAt.lt hA
  have hn := ok.n1
  go_enter Try.func41, Try.ntmps41
  go_upto_region 1 with (fail)
  refine wp_box ?_
  intro W hB b0 hW
  have R0 : RowAt W w.heap.size c.ref 57 := b0
  have kk := Ext.cells R0
  have e0 : W.cell? ⟨w.heap.size, 0, none⟩ = some (.int .u64 c.time) := RowAt.cell R0 rfl
  have e25 : W.cell? ⟨w.heap.size, 25, none⟩ = some (.int .i64 c.n) := RowAt.cell R0 rfl
  have hA2 : ClAt W b c := ClAt.ext hA hB
  have HA : Hid (∀ x : Ext W.heap.size W, ClAt x.world b c) := Lib.hid fun x => ClAt.ext hA2 x.ok
  have s0 : ∀ x : Ext W.heap.size W, x.world.cell? ⟨w.heap.size, 0, none⟩ = some (.int .u64 c.time) := fun x => x.cell e0
  have s1 : ∀ x : Ext W.heap.size W, x.world.cell? ⟨w.heap.size, 25, none⟩ = some (.int .i64 c.n) := fun x => x.cell e25
  have hso : ∀ x : Ext W.heap.size W, ∀ k : Nat, k < 8 → x.world.cell? ⟨w.heap.size, 17 + k, none⟩ = some (.int .u32 (c.soft k)) := fun x k hk => x.cell (R0.cell (rc_so _ _ _ _ _ hk))
  have hg : ∀ w', (∃ y : Ext W.heap.size W, w' = y.world) → ∀ j v, c.ref.toList[j]? = some v → w'.cell? ⟨w.heap.size, 0 + j, none⟩ = some v := by
    rintro _ ⟨y, rfl⟩ j v hv
    rw [Nat.zero_add, kk.1 y j]
    have hv2 : c.ref[j]? = some v := by simpa using hv
    exact hv2
  have HG := Lib.hid hg
  have HSO := Lib.hid hso
  have hi : (Try.prog.info? 57).map (·.size) = some c.ref.toList.length := by kernel_rfl
  have HB := Lib.hid hB
  have HOK := Lib.hid ok
  clear kk hg hso e0 e25 R0 b0 hA hA2 hB
  refine wp_start (w := W) ?_
  intro x
  refine wp_region_ext _ (by kernel_rfl) (by kernel_rfl) ?_
  repeat (go_big_quiet_step ((first | (go_at_call 42; exact Ext.call (harts_live b c _ (HA.out _))) | (go_at_call 31; exact Ext.call (time_live b c _ (HA.out _))))))
  refine wpQuiet_nil ?_
  rintro _ ⟨y, rfl⟩
  clear x
  go_wp2_with fail
  go_loopw [5] (fun i wr => (∃ k : Nat, k ≤ 10 ∧ i = .int .i64 ((k : Int) - 1)) ∧ ∃ y : Ext W.heap.size W, wr = y.world) (fun i _ => (9 - intOf i).toNat)
  case atStart => exact ⟨⟨0, by omega, rfl⟩, y, rfl⟩
  case round =>
    clear y
    obtain ⟨⟨k, hk, rfl⟩, y, rfl⟩ := hrel
    generalize hh : (k : Int) - 1 = h
    by_cases hlt : h < 9
    · have hk9 : k ≤ 9 := by omega
      have t0 : decide (h < 9) = true := dec_t hlt
      by_cases h0 : 0 ≤ h
      · obtain ⟨j, rfl⟩ : ∃ j : Nat, h = (j : Int) := ⟨h.toNat, by omega⟩
        have t1 : decide (0 ≤ (j : Int)) = true := dec_t h0
        by_cases h1 : j < c.n
        · have t2 : decide ((j : Int) < (c.n : Int)) = true := dec_t (by omega)
          have t2' : decide (j < c.n) = true := dec_t h1
          have j8 : (j : Int) < 8 := by omega
          have hj8 : j < 8 := by omega
          have s2 := fun x => HSO.out x j hj8
          have HS : Hid (softB c (j : Int) = (c.soft j == 1)) := Lib.hid (by simp [softB, hasB, t1, t2'])
          clear h1 hlt
          go_upto_region 7 with (fail)
          refine wp_region_ext _ (by kernel_rfl) (by kernel_rfl) ?_
          repeat (first | (refine wpQuiet_load_part rfl 57 (.tmp 3) rfl w.heap.size 0 rfl c.ref.toList _ (by intro w' hw'; exact HG.out w' hw') Try.underlying57 rfl hi ?_; simp only [Act.put, List.setIfInBounds_toArray, List.set_cons_succ, List.set_cons_zero]) | go_big_quiet_step ((first | (go_at_call 33; exact Ext.call (compare_live b c _ (HA.out _) hn (j : Int))) | (go_at_call 63; exact Ext.call (rcompare_any c ok (j : Int) _)) | (go_at_call 30; exact Ext.call (line_live b c _ (HA.out _) hn (j : Int))) | (go_at_call 64; exact Ext.call (rline_any c ok (j : Int) _)) | (go_at_call 43; exact Ext.call (soft_is b c _ (HA.out _) hn _ HS.out)))))
          refine wpQuiet_nil ?_
          rintro _ ⟨y2, rfl⟩
          go_wp2_with fail
          go_roundw
          case measure => simp [intOf]; omega
          case rel => exact ⟨⟨k + 1, by omega, by simp; omega⟩, _, rfl⟩
        · have t2 : decide ((j : Int) < (c.n : Int)) = false := dec_f (by omega)
          have t2' : decide (j < c.n) = false := dec_f h1
          have HS : Hid (softB c (j : Int) = false) := Lib.hid (by simp [softB, hasB, t2'])
          clear h1 hlt
          go_upto_region 7 with (fail)
          refine wp_region_ext _ (by kernel_rfl) (by kernel_rfl) ?_
          repeat (first | (refine wpQuiet_load_part rfl 57 (.tmp 3) rfl w.heap.size 0 rfl c.ref.toList _ (by intro w' hw'; exact HG.out w' hw') Try.underlying57 rfl hi ?_; simp only [Act.put, List.setIfInBounds_toArray, List.set_cons_succ, List.set_cons_zero]) | go_big_quiet_step ((first | (go_at_call 33; exact Ext.call (compare_live b c _ (HA.out _) hn (j : Int))) | (go_at_call 63; exact Ext.call (rcompare_any c ok (j : Int) _)) | (go_at_call 30; exact Ext.call (line_live b c _ (HA.out _) hn (j : Int))) | (go_at_call 64; exact Ext.call (rline_any c ok (j : Int) _)) | (go_at_call 43; exact Ext.call (soft_is b c _ (HA.out _) hn _ HS.out)))))
          refine wpQuiet_nil ?_
          rintro _ ⟨y2, rfl⟩
          go_wp2_with fail
          go_roundw
          case measure => simp [intOf]; omega
          case rel => exact ⟨⟨k + 1, by omega, by simp; omega⟩, _, rfl⟩
      · have t1 : decide (0 ≤ h) = false := dec_f h0
        have HS : Hid (softB c h = false) := Lib.hid (by simp [softB, hasB, t1])
        clear hlt
        go_upto_region 7 with (fail)
        refine wp_region_ext _ (by kernel_rfl) (by kernel_rfl) ?_
        repeat (first | (refine wpQuiet_load_part rfl 57 (.tmp 3) rfl w.heap.size 0 rfl c.ref.toList _ (by intro w' hw'; exact HG.out w' hw') Try.underlying57 rfl hi ?_; simp only [Act.put, List.setIfInBounds_toArray, List.set_cons_succ, List.set_cons_zero]) | go_big_quiet_step ((first | (go_at_call 33; exact Ext.call (compare_live b c _ (HA.out _) hn h)) | (go_at_call 63; exact Ext.call (rcompare_any c ok h _)) | (go_at_call 30; exact Ext.call (line_live b c _ (HA.out _) hn h)) | (go_at_call 64; exact Ext.call (rline_any c ok h _)) | (go_at_call 43; exact Ext.call (soft_is b c _ (HA.out _) hn _ HS.out)))))
        refine wpQuiet_nil ?_
        rintro _ ⟨y2, rfl⟩
        go_wp2_with fail
        go_roundw
        case measure => simp [intOf]; omega
        case rel => exact ⟨⟨k + 1, by omega, by simp; omega⟩, _, rfl⟩
    · have t0 : decide (h < 9) = false := dec_f hlt
      go_wp2_with fail
      go_ret
      exact ⟨rfl, below_then HB.out y.ok⟩
end Go.Proofs.Ytaihebdjhbnhoaa
