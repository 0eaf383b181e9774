/- A clock and the document's are alike; the chapter's example; a call of both. -/
import Derived.Test.YtdhgcmodlikckaaRtcE
namespace Go.Proofs.Ytdhgcmodlikckaa
open Go.RowKit
set_option linter.unusedVariables false
set_option linter.unusedSimpArgs false
set_option maxHeartbeats 4000000 in
set_option maxRecDepth 100000 in
theorem alike_any (b : Nat) (s : St) (ok : s.ok) (w : World) (hR : RtcAt w b s) : Calls Try.prog 20 #[.pointer (some ⟨b, 0, none⟩), .agg #[.int .u32 s.div, .int .u32 s.rest, .int .u32 s.set, .int .u64 s.sec, .int .u32 (s.alarm % 4294967296), .int .u32 (s.alarm / 4294967296), .bool s.en, .bool s.ra]] w fun e w' => e = .returned (.bool true) ∧ Below w.heap.size w w' := by
  have HK := Lib.hid ok
  clear ok
  go_enter Try.func20, Try.ntmps20
  go_wp2_with fail
  refine wp_box ?_
  intro W hB b0 hW
  obtain ⟨hk, hf⟩ := Ext.cells b0
  have HR := Lib.hid (RtcAt.ext hR hB)
  have HB := Lib.hid hB
  clear hR hB b0 hW
  go_loopw [5] (fun o wr => ∃ (j : Nat) (x : Ext W.heap.size W), j ≤ 9 ∧ o = .int .u32 (4 * (j : Int)) ∧ wr = x.world) (fun o _ => 36 - (intOf o).toNat)
  case atStart => exact ⟨0, ⟨W, Below.refl _ _⟩, by omega, rfl, rfl⟩
  case round =>
    obtain ⟨j, x, hj, rfl, rfl⟩ := hrel
    by_cases hlt : j < 9
    · have g : decide (4 * (j : Int) < 36) = true := by simp; omega
      go_wp2_with (first | (go_at_call 25; refine (load_any b s HK.out _ _ (by omega) (by omega) (RtcAt.ext HR.out (Ext.ok _))).mono ?_; rintro e wr ⟨rfl, hbr⟩; obtain ⟨y, rfl⟩ := Ext.step _ hbr; clear hbr) | (go_at_call 48; refine (rload_any s HK.out _ _ (by omega) (by omega)).mono ?_; rintro e wr ⟨rfl, hbr⟩; obtain ⟨y, rfl⟩ := Ext.step _ hbr; clear hbr))
      go_roundw
      case rel => exact ⟨j + 1, _, by omega, by go_num, rfl⟩
      case measure => simp [intOf]; omega
    · obtain rfl : j = 9 := by omega
      have g : decide (4 * ((9 : Nat) : Int) < 36) = false := rfl
      go_wp2_with fail
      refine wp_region_ext _ (by kernel_rfl) (by kernel_rfl) ?_
      repeat (go_big_quiet_step (first | (go_at_call 14; exact Ext.call (seconds_any b s _ (RtcAt.ext HR.out (Ext.ok _)))) | (go_at_call 15; exact Ext.call (rest_any b s _ (RtcAt.ext HR.out (Ext.ok _)))) | (go_at_call 16; exact Ext.call (alarm_any b s _ (RtcAt.ext HR.out (Ext.ok _)))) | (go_at_call 23; exact Ext.call (Met_any b s _ (RtcAt.ext HR.out (Ext.ok _)))) | (go_at_call 17; exact Ext.call (raised_any b s _ (RtcAt.ext HR.out (Ext.ok _)))) | (go_at_call 22; exact Ext.call (left_any b s HK.out _ (RtcAt.ext HR.out (Ext.ok _)))) | (go_at_call 51; exact Ext.call (ralarm_any s HK.out _)) | (go_at_call 52; exact Ext.call (rmet_any s HK.out _)) | (go_at_call 53; exact Ext.call (rleft_any s HK.out _))))
      refine wpQuiet_nil ?_
      rintro _ ⟨y, rfl⟩
      go_wp2_with fail
      go_ret
      exact ⟨rfl, below_then HB.out (Ext.ok _)⟩
def e0 : St := ⟨0, 0, 0, 0, false, false, 10⟩
theorem e0_ok : e0.ok := by constructor <;> decide
def e1 : St := ⟨0, 2, 0, 0, false, false, 10⟩
theorem e1_ok : e1.ok := by constructor <;> decide
def e2 : St := ⟨0, 2, 0, 0, true, false, 10⟩
theorem e2_ok : e2.ok := by constructor <;> decide
def e3 : St := ⟨1, 2, 9, 0, true, false, 10⟩
theorem e3_ok : e3.ok := by constructor <;> decide
def e4 : St := ⟨2, 2, 0, 0, true, true, 10⟩
theorem e4_ok : e4.ok := by constructor <;> decide
theorem ek1 : e0.store 16 2 = (e1, 0) := by kernel_rfl
theorem ek2 : e1.store 24 1 = (e2, 0) := by kernel_rfl
theorem ek3 : e2.left = 20 := by kernel_rfl
theorem ek4 : e2.raise (e2.tick 19) = e3 := by kernel_rfl
theorem ek5 : e3.raise (e3.tick 1) = e4 := by kernel_rfl
set_option maxHeartbeats 4000000 in
set_option maxRecDepth 100000 in
theorem known10 (w : World) : Calls Try.prog 18 #[] w fun e w' => e = .returned (.bool true) ∧ Below w.heap.size w w' := by
  go_enter Try.func18, Try.ntmps18
  go_wp2_with fail
  refine (new_any 10 _ (by omega) (by omega)).mono ?_
  rintro e w1 ⟨b, rfl, hb, hR1, hB1⟩
  have HB1 := Lib.hid hB1
  clear hB1
  go_wp2_with fail
  refine (store_any b e0 e0_ok 16 2 _ (by omega) (by omega) (by omega) (by omega) hR1).mono ?_
  rw [ek1]
  rintro e w2 ⟨rfl, hR2, hB2⟩
  go_wp2_with fail
  refine (store_any b e1 e1_ok 24 1 _ (by omega) (by omega) (by omega) (by omega) hR2).mono ?_
  rw [ek2]
  rintro e w3 ⟨rfl, hR3, hB3⟩
  go_wp2_with fail
  refine (left_any b e2 e2_ok _ hR3).mono ?_
  rw [ek3]
  rintro e w4 ⟨rfl, hB4⟩
  have hR4 := RtcAt.ext hR3 hB4
  go_wp2_with fail
  refine (tick_any b e2 e2_ok 19 _ (by omega) (by omega) hR4).mono ?_
  rw [ek4]
  rintro e w5 ⟨rfl, hR5, hB5⟩
  go_wp2_with fail
  refine (raised_any b e3 _ hR5).mono ?_
  rintro e w6 ⟨rfl, hB6⟩
  have hR6 := RtcAt.ext hR5 hB6
  have er3 : e3.ra = false := rfl
  rw [er3]
  go_wp2_with fail
  refine (tick_any b e3 e3_ok 1 _ (by omega) (by omega) hR6).mono ?_
  rw [ek5]
  rintro e w7 ⟨rfl, hR7, hB7⟩
  go_wp2_with fail
  refine (raised_any b e4 _ hR7).mono ?_
  rintro e w8 ⟨rfl, hB8⟩
  have hR8 := RtcAt.ext hR7 hB8
  have er4 : e4.ra = true := rfl
  rw [er4]
  go_wp2_with fail
  refine (seconds_any b e4 _ hR8).mono ?_
  rintro e w9 ⟨rfl, hB9⟩
  have es4 : e4.sec = 2 := rfl
  rw [es4]
  go_wp2_with fail
  go_ret
  exact ⟨rfl, But.below HB1.out (hB2.trans (hB3.trans ((but_of hB4 b).trans (hB5.trans ((but_of hB6 b).trans (hB7.trans ((but_of hB8 b).trans (but_of hB9 b)))))))) hb HB1.out.size⟩
end Go.Proofs.Ytdhgcmodlikckaa
