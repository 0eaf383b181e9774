/- The chapter's example; a nil histogram has no numbers. -/
import Derived.Test.YtaihebdjhbnhoaaHistK
namespace Go.Proofs.Ytaihebdjhbnhoaa
open Go.RowKit
set_option linter.unusedVariables false
set_option linter.unusedSimpArgs false

theorem new_L (w : World) :
    Calls Try.prog 14 #[] w fun e w' => ∃ b, e = .returned (.pointer (some ⟨b, 0, none⟩)) ∧ w.heap.size ≤ b ∧ HistAt w' b (HsOf []) ∧ Below w.heap.size w w' := by
  rw [HsOf_nil]
  exact new_any w
theorem below_but {w w1 w2 : World} {b B : Nat} (h : Below B w w1) (k : But b w1 w2) (hb : B ≤ b) (hB : B ≤ w1.heap.size) : Below B w w2 := But.below h k hb hB
set_option maxHeartbeats 4000000 in
set_option maxRecDepth 100000 in
theorem known33 (w : World) : Calls Try.prog 13 #[] w fun e w' => e = .returned (.bool true) ∧ Below w.heap.size w w' := by
  obtain ⟨L, hL⟩ : ∃ L : List Int, L = [0, 1, 5, 6, 300] := ⟨_, rfl⟩
  have hG : GoodL L := by rw [hL]; intro x hx; simp at hx; omega
  have hN : L.length ≤ 1000000 := by rw [hL]; decide
  have b0 : bucketI L 0 = 1 := by rw [hL]; decide +kernel
  have b1 : bucketI L 1 = 1 := by rw [hL]; decide +kernel
  have b3 : bucketI L 3 = 2 := by rw [hL]; decide +kernel
  have b9 : bucketI L 9 = 1 := by rw [hL]; decide +kernel
  have p5 : partI L 500 = (4, 7, true) := by rw [hL]; decide +kernel
  have s3 : sumL L = 312 := by rw [hL]; decide +kernel
  have HL := Lib.hid hL
  have HG := Lib.hid hG
  have HLN := Lib.hid hN
  clear hL hG hN
  go_enter Try.func13, Try.ntmps13
  go_wp2_with fail
  refine (new_L _).mono ?_
  rintro e w1 ⟨b, rfl, hb, hA, hB⟩
  have HA1 := Lib.hid hA
  have HB1 := Lib.hid hB
  clear hA hB
  go_wp2_with fail
  have hlt := RowAt.lt HA1.out
  have hS : SliceAt (w1.alloc (.cells #[.int .u64 0, .int .u64 1, .int .u64 5, .int .u64 6, .int .u64 300] 22)) (some ⟨w1.heap.size, 0, none⟩) [0, 1, 5, 6, 300] b := by
    intro _
    refine ⟨_, rfl, by simp, by dsimp only; omega, ?_⟩
    intro k hk
    have R := RowAt.new w1 #[.int .u64 0, .int .u64 1, .int .u64 5, .int .u64 6, .int .u64 300] 22
    rw [add_at]
    refine RowAt.cell R ?_
    match k, hk with
    | 0, _ => rfl
    | 1, _ => rfl
    | 2, _ => rfl
    | 3, _ => rfl
    | 4, _ => rfl
  refine (adds_any b [] [0, 1, 5, 6, 300] _ _ _ (RowAt.alloc HA1.out _) (by intro x hx; cases hx) (by rw [← HL.out]; exact HG.out) (by decide) hS).mono ?_
  rintro e w2 ⟨rfl, hA, hBt⟩
  rw [List.nil_append, ← HL.out] at hA
  have hB := below_but (below_new HB1.out _) hBt hb (Nat.le_trans HB1.out.size (by simp))
  have HA := Lib.hid hA
  have HB := Lib.hid hB
  clear hA hBt hB hS hlt HA1 HB1 hb
  go_upto_region 5 with (fail)
  refine wp_start (w := w2) ?_
  intro x
  go_wp2_with (first | (go_at_call 23; refine (count_L b L _ (HistAt.ext HA.out (Ext.ok _)) HG.out).mono ?_; rintro e wr ⟨rfl, hbr⟩; obtain ⟨y, rfl⟩ := Ext.step _ hbr; clear hbr) | (go_at_call 25; refine (sum_L b L _ (HistAt.ext HA.out (Ext.ok _)) HG.out).mono ?_; rintro e wr ⟨rfl, hbr⟩; obtain ⟨y, rfl⟩ := Ext.step _ hbr; clear hbr) | (go_at_call 17; refine (least_L b L _ (HistAt.ext HA.out (Ext.ok _)) HG.out).mono ?_; rintro e wr ⟨rfl, hbr⟩; obtain ⟨y, rfl⟩ := Ext.step _ hbr; clear hbr) | (go_at_call 18; refine (most_L b L _ (HistAt.ext HA.out (Ext.ok _)) HG.out).mono ?_; rintro e wr ⟨rfl, hbr⟩; obtain ⟨y, rfl⟩ := Ext.step _ hbr; clear hbr) | (go_at_call 24; refine (bucket_L b L _ _ (HistAt.ext HA.out (Ext.ok _)) (by omega) (by omega)).mono ?_; rintro e wr ⟨rfl, hbr⟩; obtain ⟨y, rfl⟩ := Ext.step _ hbr; clear hbr) | (go_at_call 16; refine (part_L b L _ _ (HistAt.ext HA.out (Ext.ok _)) HG.out HLN.out).mono ?_; rintro e wr ⟨rfl, hbr⟩; obtain ⟨y, rfl⟩ := Ext.step _ hbr; clear hbr))
  go_ret
  exact ⟨rfl, below_then HB.out (Ext.ok _)⟩
set_option maxHeartbeats 4000000 in
set_option maxRecDepth 100000 in
theorem HistNil_walk (n k : Int) (W : World) (n0 : 0 ≤ n) (n1 : n ≤ 18446744073709551615) (k0 : -9223372036854775808 ≤ k) (k1 : k ≤ 9223372036854775807) :
    Calls Try.prog 7 #[.int .u64 n, .int .i64 k] W fun e w' => e = .returned (.bool true) ∧ Below W.heap.size W w' := by
  go_enter Try.func7, Try.ntmps7
  refine wp_start (w := W) ?_
  intro x
  go_wp2_with (first | (go_at_call 15; refine (add_nil _ _ _ _).mono ?_; rintro e wr ⟨rfl, hbr⟩; obtain ⟨y, rfl⟩ := Ext.step _ (below_then (below_new (Below.refl _ _) _) hbr); clear hbr) | (go_at_call 22; refine (merge_nil _ _).mono ?_; rintro e wr ⟨rfl, hbr⟩; obtain ⟨y, rfl⟩ := Ext.step _ hbr; clear hbr) | (go_at_call 17; refine (least_nil _).mono ?_; rintro e wr ⟨rfl, hbr⟩; obtain ⟨y, rfl⟩ := Ext.step _ hbr; clear hbr) | (go_at_call 18; refine (most_nil _).mono ?_; rintro e wr ⟨rfl, hbr⟩; obtain ⟨y, rfl⟩ := Ext.step _ hbr; clear hbr) | (go_at_call 16; refine (part_nil _ _).mono ?_; rintro e wr ⟨rfl, hbr⟩; obtain ⟨y, rfl⟩ := Ext.step _ hbr; clear hbr) | (go_at_call 24; refine (bucket_nil _ _ (by omega) (by omega)).mono ?_; rintro e wr ⟨rfl, hbr⟩; obtain ⟨y, rfl⟩ := Ext.step _ hbr; clear hbr) | (go_at_call 23; refine (count_nil _).mono ?_; rintro e wr ⟨rfl, hbr⟩; obtain ⟨y, rfl⟩ := Ext.step _ hbr; clear hbr) | (go_at_call 25; refine (sum_nil _).mono ?_; rintro e wr ⟨rfl, hbr⟩; obtain ⟨y, rfl⟩ := Ext.step _ hbr; clear hbr) | (go_at_call 19; refine (copy_nil _).mono ?_; rintro e wr ⟨rfl, hbr⟩; obtain ⟨y, rfl⟩ := Ext.step _ hbr; clear hbr) | (go_at_call 13; refine (known33 _).mono ?_; rintro e wr ⟨rfl, hbr⟩; obtain ⟨y, rfl⟩ := Ext.step _ hbr; clear hbr) | (go_at_call 14; refine (new_L _).mono ?_; rintro e wr ⟨bn, rfl, hbn, hAn, hbr⟩; obtain ⟨y, rfl⟩ := Ext.step _ hbr; clear hbr hAn))
  go_ret
  exact ⟨rfl, Ext.ok _⟩
end Go.Proofs.Ytaihebdjhbnhoaa
