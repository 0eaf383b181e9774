/- A controller is like the document's. -/
import Derived.Test.YtaihebdjhbnhoaaDoorLnI
namespace Go.Proofs.YtaihebdjhbnhoaaDoor
open Go.RowKit
set_option linter.unusedVariables false
set_option linter.unusedSimpArgs false

set_option maxHeartbeats 8000000 in
set_option maxRecDepth 100000 in
theorem lword_any (h m : Int) (w : World) (h0 : 0 ≤ h) (h1 : h ≤ 4294967295) (m0 : 0 ≤ m) (m1 : m ≤ 4294967295) :
    Calls Tryd.prog 20 #[.agg (lrow h m)] w fun e w' => e = .returned (.int .u32 h) ∧ Below w.heap.size w w' := by
  go_enter Tryd.func20, Tryd.ntmps20
  go_upto_region 1 with (fail)
  refine wp_box ?_
  intro W hB b0 hW
  have R0 : RowAt W w.heap.size (bools (ll h m)) 39 := b0
  have HR := Lib.hid R0
  have HB := Lib.hid hB
  clear b0 R0 hB
  go_wp2_with (first | (refine wpList_load_part rfl 37 (.tmp 3) rfl w.heap.size 0 rfl ((t32 (bitI h)).map Value.bool) _ (part_lo HR.out) Tryd.underlying37 rfl (info32' _) ?_) | (go_at_call 28; refine (word_of h0 h1 _).mono ?_; rintro e w2 ⟨rfl, hb2⟩))
  go_ret
  exact ⟨rfl, below_then HB.out hb2⟩
set_option maxHeartbeats 8000000 in
set_option maxRecDepth 100000 in
theorem alike_any (b : Nat) (h m : Int) (w : World) (hA : LnAt w b h m) (h0 : 0 ≤ h) (h1 : h ≤ 4294967295) (m0 : 0 ≤ m) (m1 : m ≤ 4294967295) (hT : Tab w) :
    Calls Tryd.prog 19 #[.pointer (some ⟨b, 0, none⟩), .agg (lrow h m)] w fun e w' => e = .returned (.bool true) ∧ Below w.heap.size w w' := by
  have hb : b < w.heap.size := RowAt.lt hA
  go_enter Tryd.func19, Tryd.ntmps19
  go_upto_region 1 with (fail)
  refine wp_box ?_
  intro W hB b0 hW
  have R0 : RowAt W w.heap.size (bools (ll h m)) 39 := b0
  have hA2 : LnAt W b h m := LnAt.ext hA hB
  have hT2 : Tab W := hT.ext hB
  have HT := Lib.hid hT2
  have HA : Hid (∀ x : Ext W.heap.size W, LnAt x.world b h m) := Lib.hid fun x => LnAt.ext hA2 x.ok
  have HG1 : Hid (∀ w', (∃ y : Ext W.heap.size W, w' = y.world) → ∀ j v, ((t32 (bitI h)).map Value.bool)[j]? = some v → w'.cell? ⟨w.heap.size, 0 + j, none⟩ = some v) := Lib.hid (by
    rintro _ ⟨y, rfl⟩
    exact part_lo (RowAt.ext R0 y.ok))
  have HG2 : Hid (∀ w', (∃ y : Ext W.heap.size W, w' = y.world) → ∀ j v, ((ll h m).map Value.bool)[j]? = some v → w'.cell? ⟨w.heap.size, 0 + j, none⟩ = some v) := Lib.hid (by
    rintro _ ⟨y, rfl⟩ j v hv
    rw [Nat.zero_add]
    refine (RowAt.ext R0 y.ok).cell ?_
    simpa [bools] using hv)
  have hi : (Tryd.prog.info? 39).map (·.size) = some ((ll h m).map Value.bool).length := by rw [List.length_map, ll_len]; kernel_rfl
  have HB := Lib.hid hB
  clear b0 R0 hA hA2 hB hT hT2
  refine wp_start (w := W) ?_
  intro x
  refine wp_region_ext _ (by kernel_rfl) (by kernel_rfl) ?_
  repeat (first | (refine wpQuiet_load_part rfl 37 (.tmp 7) rfl w.heap.size 0 rfl ((t32 (bitI h)).map Value.bool) _ (by intro w' hw'; exact HG1.out w' hw') Tryd.underlying37 rfl (info32' _) ?_; simp only [Act.put, List.setIfInBounds_toArray, List.set_cons_succ, List.set_cons_zero]) | (refine wpQuiet_load_part rfl 39 (.tmp 3) rfl w.heap.size 0 rfl ((ll h m).map Value.bool) _ (by intro w' hw'; exact HG2.out w' hw') Tryd.underlying39 rfl hi ?_; simp only [Act.put, List.setIfInBounds_toArray, List.set_cons_succ, List.set_cons_zero]) | go_big_quiet_step ((first | (go_at_call 21; exact Ext.call (high_live b h m _ (HA.out _))) | (go_at_call 28; exact Ext.call (word_of h0 h1 _)) | (go_at_call 11; exact Ext.call (least_live b h m _ (HA.out _) h0 h1 m0 m1 (HT.out.at _))) | (go_at_call 29; exact Ext.call (rleast_any h m _ h0 h1 m0 m1)) | (go_at_call 9; exact Ext.call (out_live b h m _ (HA.out _) h0 h1 m0 m1 (HT.out.at _))))))
  refine wpQuiet_nil ?_
  rintro _ ⟨y, rfl⟩
  go_wp2_with fail
  go_ret
  exact ⟨rfl, below_then HB.out y.ok⟩
end Go.Proofs.YtaihebdjhbnhoaaDoor
