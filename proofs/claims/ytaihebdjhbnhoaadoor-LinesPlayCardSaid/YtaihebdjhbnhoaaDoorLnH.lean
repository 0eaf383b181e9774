/- The document's lines: Load. -/
import Derived.Test.YtaihebdjhbnhoaaDoorLnG
namespace Go.Proofs.YtaihebdjhbnhoaaDoor
open Go.RowKit
set_option linter.unusedVariables false
set_option linter.unusedSimpArgs false

theorem bs_self {n : Int} (h0 : 0 ≤ n) (h1 : n ≤ 4294967295) : bs (bitI n) 32 = n := by
  obtain ⟨p, q, r⟩ := bs_bits (bitI n)
  exact bits_ext p q h0 h1 r
theorem part_lo {h m : Int} {W : World} {g : Nat} (R : RowAt W g (bools (ll h m)) 39) : ∀ j v, ((t32 (bitI h)).map Value.bool)[j]? = some v → W.cell? ⟨g, 0 + j, none⟩ = some v := by
  intro j v hv
  rcases Nat.lt_or_ge j 32 with hj | hj
  · rw [Nat.zero_add]
    refine R.cell ?_
    rw [bools_get (ll_lo h m hj)]
    rw [List.getElem?_map, t32_get _ hj] at hv
    exact hv
  · rw [List.getElem?_eq_none (by simp [t32]; omega)] at hv
    cases hv
theorem part_hi {h m : Int} {W : World} {g : Nat} (R : RowAt W g (bools (ll h m)) 39) : ∀ j v, ((t32 (bitI m)).map Value.bool)[j]? = some v → W.cell? ⟨g, 32 + j, none⟩ = some v := by
  intro j v hv
  rcases Nat.lt_or_ge j 32 with hj | hj
  · refine R.cell ?_
    rw [bools_get (ll_hi h m hj)]
    rw [List.getElem?_map, t32_get _ hj] at hv
    exact hv
  · rw [List.getElem?_eq_none (by simp [t32]; omega)] at hv
    cases hv
theorem info32' (f : Nat → Bool) : (Tryd.prog.info? 37).map (·.size) = some ((t32 f).map Value.bool).length := by rw [List.length_map, t32_len]; exact info32
theorem word_of {n : Int} (h0 : 0 ≤ n) (h1 : n ≤ 4294967295) (w : World) : Calls Tryd.prog 28 #[.agg (bools (t32 (bitI n)))] w fun e w' => e = .returned (.int .u32 n) ∧ Below w.heap.size w w' := by
  have q := word_any (bitI n) w
  rw [bs_self h0 h1] at q
  exact q
set_option maxHeartbeats 8000000 in
set_option maxRecDepth 100000 in
theorem rload_any (h m off : Int) (w : World) (h0 : 0 ≤ h) (h1 : h ≤ 4294967295) (m0 : 0 ≤ m) (m1 : m ≤ 4294967295) (u0 : 0 ≤ off) (u1 : off ≤ 4294967295) :
    Calls Tryd.prog 15 #[.agg (lrow h m), .int .u32 off] w fun e w' => e = .returned (.tuple #[.int .u32 (loadL h m off).1, .int .i64 (loadL h m off).2]) ∧ Below w.heap.size w w' := by
  by_cases om : off % 4 = 0
  · have dm : (off % 4 != 0) = false := bne_f om
    have HOM : Hid (off % 4 = 0) := om
    clear om
    obtain ⟨r0, r1, r2⟩ := and_u32 h m h0 h1 m0 m1
    have HR2 := Lib.hid r2
    clear r2
    go_enter Tryd.func15, Tryd.ntmps15
    go_upto_region 4 with (fail)
    refine wp_box2 ?_
    intro W hB b0 b1 hW
    have R0 : RowAt W w.heap.size (bools (ll h m)) 39 := b0
    have R1 : RowAt W (w.heap.size + 1) (bools (t32 fun _ => false)) 37 := b1
    go_wp2_with fail
    go_loopw [7] (fun i wr => ∃ (k : Nat) (l : List Bool), k ≤ 32 ∧ i = .int .i64 k ∧ l.length = 32 ∧ (∀ q, q < k → l[q]? = some (bitI (bits .and .u32 h m) q)) ∧ RowAt wr w.heap.size (bools (ll h m)) 39 ∧ RowAt wr (w.heap.size + 1) (bools l) 37 ∧ Below w.heap.size w wr) (fun i _ => 32 - (intOf i).toNat)
    case atStart => exact ⟨0, _, by omega, rfl, t32_len _, fun q hq => absurd hq (by omega), R0, R1, hB⟩
    case round =>
      clear R0 R1 hB b0 b1
      obtain ⟨k, l, hk, rfl, hl, hd, Q0, Q1, hB⟩ := hrel
      have HD := Lib.hid hd
      by_cases hlt : k < 32
      · have k0 : (0 : Int) ≤ (k : Int) := by omega
        have k32 : (k : Int) < 32 := by omega
        have c0 := Q0.cell (bools_get (ll_lo h m hlt))
        have c1 := Q0.cell (bools_get (ll_hi h m hlt))
        have c2 := RowAt.cell Q1 (bools_get (List.getElem?_eq_getElem (show k < l.length by omega)))
        have fz := RowAt.frozen Q1
        have ek := HR2.out k hlt
        have HEK := Lib.hid ek
        have H0 := Lib.hid Q0
        have H1 := Lib.hid Q1
        have HB := Lib.hid hB
        clear Q0 Q1 hB hd ek
        rcases Bool.eq_false_or_eq_true (bitI h k) with hx | hx <;> rcases Bool.eq_false_or_eq_true (bitI m k) with hy | hy
        all_goals
          rw [hx] at c0
          rw [hy] at c1
          have HX := Lib.hid hx
          have HY := Lib.hid hy
          clear hx hy
          go_wp2_with fail
          go_roundw
          case measure => simp [intOf]; omega
          case rel =>
            have ev : bitI (bits .and .u32 h m) k = _ := HEK.out
            rw [HX.out, HY.out] at ev
            have Q3 := RowAt.set H1.out k (.bool (bitI (bits .and .u32 h m) k))
            rw [bools_set, ev] at Q3
            refine ⟨k + 1, _, by omega, by go_num, ?_, fun q hq => ?_, RowAt.other H0.out (by simp) _, Q3, below_set HB.out (by simp) _⟩
            · simp [hl]
            · rw [List.getElem?_set]
              by_cases hqe : k = q
              · subst hqe; rw [if_pos rfl, if_pos (by omega), ev]
              · rw [if_neg hqe]; exact HD.out q (by omega)
      · obtain rfl : k = 32 := by omega
        have el : l = t32 (bitI (bits .and .u32 h m)) := list_of_places l 32 _ hl HD.out
        subst el
        have H0 := Lib.hid Q0
        have H1 := Lib.hid Q1
        have HB := Lib.hid hB
        clear Q0 Q1 hB hd HD hl
        by_cases o0 : off = 0
        · have d0 : (off == 0) = true := beq_t o0
          have HE : Hid (loadL h m off = (h, 0)) := Lib.hid (by unfold loadL; rw [if_pos o0])
          clear o0
          go_wp2_with (first | (refine wpList_load_part rfl 37 (.tmp 30) rfl w.heap.size 0 rfl ((t32 (bitI h)).map Value.bool) _ (part_lo H0.out) Tryd.underlying37 rfl (info32' _) ?_) | (go_at_call 28; refine (word_of h0 h1 _).mono ?_; rintro e w2 ⟨rfl, hb2⟩))
          go_ret2
          exact ⟨by rw [HE.out]; rfl, below_then HB.out hb2⟩
        · have d0 : (off == 0) = false := beq_f o0
          by_cases o4 : off = 4
          · have d4 : (off == 4) = true := beq_t o4
            have HE : Hid (loadL h m off = (m, 0)) := Lib.hid (by unfold loadL; rw [if_neg o0, if_pos o4])
            clear o0 o4
            go_wp2_with (first | (refine wpList_load_part rfl 37 (.tmp 35) rfl w.heap.size 32 rfl ((t32 (bitI m)).map Value.bool) _ (part_hi H0.out) Tryd.underlying37 rfl (info32' _) ?_) | (go_at_call 28; refine (word_of m0 m1 _).mono ?_; rintro e w2 ⟨rfl, hb2⟩))
            go_ret2
            exact ⟨by rw [HE.out]; rfl, below_then HB.out hb2⟩
          · have d4 : (off == 4) = false := beq_f o4
            by_cases o8 : off = 8
            · have d8 : (off == 8) = true := beq_t o8
              have HE : Hid (loadL h m off = (bits .and .u32 h m, 0)) := Lib.hid (by unfold loadL; rw [if_neg o0, if_neg o4, if_pos o8])
              clear o0 o4 o8
              go_wp2_with (first | (refine wpList_load_row rfl 37 (.tmp 6) rfl (w.heap.size + 1) rfl 37 (bools (t32 (bitI (bits .and .u32 h m)))) (0, 0) _ H1.out Tryd.underlying37 rfl (by rw [bools_size, t32_len]; exact info32) ?_) | (go_at_call 28; refine (word_of r0 r1 _).mono ?_; rintro e w2 ⟨rfl, hb2⟩))
              go_ret2
              exact ⟨by rw [HE.out]; rfl, below_then HB.out hb2⟩
            · have d8 : (off == 8) = false := beq_f o8
              have HE : Hid (loadL h m off = (0, 10)) := Lib.hid (by unfold loadL; rw [if_neg o0, if_neg o4, if_neg o8, if_neg (by have := HOM.out; omega)])
              clear o0 o4 o8
              go_wp2_with fail
              go_ret2
              exact ⟨by rw [HE.out]; rfl, HB.out⟩
  · have dm : (off % 4 != 0) = true := bne_t om
    have HE : Hid (loadL h m off = (0, 11)) := Lib.hid (by unfold loadL; rw [if_neg (by omega), if_neg (by omega), if_neg (by omega), if_pos om])
    clear om
    go_enter Tryd.func15, Tryd.ntmps15
    go_wp2_with fail
    go_ret2
    exact ⟨by rw [HE.out]; rfl, below_new (Below.refl _ _) _⟩
end Go.Proofs.YtaihebdjhbnhoaaDoor
