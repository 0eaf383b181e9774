/- Places: the walk of the law PlaceOf. -/
import Derived.Test.YtnoafhfidecppaaPlaceK
namespace Go.Proofs.Ytnoafhfidecppaa
open Go.RowKit
set_option linter.unusedVariables false
set_option linter.unusedSimpArgs false

set_option maxHeartbeats 2000000 in
theorem rof_eq (b d : Int) (h0 : 0 ≤ b) (h1 : b ≤ 18446744073709551615) (k0 : 0 ≤ d) (k1 : d ≤ 18446744073709551615) : rofL b d = ofL b d ∧ rofS b d = ofS b d := by
  obtain ⟨b1, b2, b3, b4, b5, b6, b7, b8, ⟨eb1, eb2, eb3, eb4, eb5, eb6, eb7, eb8⟩, ⟨lb1, ub1⟩, ⟨lb2, ub2⟩, ⟨lb3, ub3⟩, ⟨lb4, ub4⟩, ⟨lb5, ub5⟩, ⟨lb6, ub6⟩, ⟨lb7, ub7⟩, ⟨lb8, ub8⟩, zb, tb⟩ := chain b h0 h1
  obtain ⟨d1, d2, d3, d4, d5, d6, d7, d8, ⟨ed1, ed2, ed3, ed4, ed5, ed6, ed7, ed8⟩, ⟨ld1, ud1⟩, ⟨ld2, ud2⟩, ⟨ld3, ud3⟩, ⟨ld4, ud4⟩, ⟨ld5, ud5⟩, ⟨ld6, ud6⟩, ⟨ld7, ud7⟩, ⟨ld8, ud8⟩, zd, td⟩ := chain d k0 k1
  simp only [rofL, rofS, bne_eq_false_iff_eq]
  rcases of_cases b d h0 h1 k0 k1 with ⟨p1, p2, p3⟩ | ⟨p0, p1, p2, p3⟩ | ⟨p0, p1, p2, p3⟩ | ⟨p0, p1, p2, p3⟩ | ⟨p0, p1, p2, p3⟩ | ⟨p0, p1, p2, p3⟩ | ⟨p0, p1, p2, p3⟩ | ⟨p0, p1, p2, p3⟩ | ⟨p0, p1, p2, p3⟩ | ⟨p1, p2, p3⟩
  · rw [p2, p3]
    simp only [eb1, eb2, eb3, eb4, eb5, eb6, eb7, eb8, ed1, ed2, ed3, ed4, ed5, ed6, ed7, ed8] at *
    rw [if_pos p1, if_pos p1]
    exact ⟨rfl, rfl⟩
  · rw [p2, p3]
    simp only [eb1, eb2, eb3, eb4, eb5, eb6, eb7, eb8, ed1, ed2, ed3, ed4, ed5, ed6, ed7, ed8] at *
    have y0 : b1 = d1 := by omega
    rw [if_neg (by omega : ¬ d ≤ b), if_pos y0, if_neg (by omega : ¬ d ≤ b), if_pos y0]
    exact ⟨rfl, rfl⟩
  · rw [p2, p3]
    simp only [eb1, eb2, eb3, eb4, eb5, eb6, eb7, eb8, ed1, ed2, ed3, ed4, ed5, ed6, ed7, ed8] at *
    have n0 : ¬ b1 = d1 := by omega
    have y1 : b1 / 64 = d1 / 64 := by omega
    rw [if_neg (by omega : ¬ d ≤ b), if_neg n0, if_pos y1, if_neg (by omega : ¬ d ≤ b), if_neg n0, if_pos y1]
    exact ⟨rfl, rfl⟩
  · rw [p2, p3]
    simp only [eb1, eb2, eb3, eb4, eb5, eb6, eb7, eb8, ed1, ed2, ed3, ed4, ed5, ed6, ed7, ed8] at *
    have n0 : ¬ b1 = d1 := by omega
    have n1 : ¬ b1 / 64 = d1 / 64 := by omega
    have y2 : b2 / 64 = d2 / 64 := by omega
    rw [if_neg (by omega : ¬ d ≤ b), if_neg n0, if_neg n1, if_pos y2, if_neg (by omega : ¬ d ≤ b), if_neg n0, if_neg n1, if_pos y2]
    exact ⟨rfl, rfl⟩
  · rw [p2, p3]
    simp only [eb1, eb2, eb3, eb4, eb5, eb6, eb7, eb8, ed1, ed2, ed3, ed4, ed5, ed6, ed7, ed8] at *
    have n0 : ¬ b1 = d1 := by omega
    have n1 : ¬ b1 / 64 = d1 / 64 := by omega
    have n2 : ¬ b2 / 64 = d2 / 64 := by omega
    have y3 : b3 / 64 = d3 / 64 := by omega
    rw [if_neg (by omega : ¬ d ≤ b), if_neg n0, if_neg n1, if_neg n2, if_pos y3, if_neg (by omega : ¬ d ≤ b), if_neg n0, if_neg n1, if_neg n2, if_pos y3]
    exact ⟨rfl, rfl⟩
  · rw [p2, p3]
    simp only [eb1, eb2, eb3, eb4, eb5, eb6, eb7, eb8, ed1, ed2, ed3, ed4, ed5, ed6, ed7, ed8] at *
    have n0 : ¬ b1 = d1 := by omega
    have n1 : ¬ b1 / 64 = d1 / 64 := by omega
    have n2 : ¬ b2 / 64 = d2 / 64 := by omega
    have n3 : ¬ b3 / 64 = d3 / 64 := by omega
    have y4 : b4 / 64 = d4 / 64 := by omega
    rw [if_neg (by omega : ¬ d ≤ b), if_neg n0, if_neg n1, if_neg n2, if_neg n3, if_pos y4, if_neg (by omega : ¬ d ≤ b), if_neg n0, if_neg n1, if_neg n2, if_neg n3, if_pos y4]
    exact ⟨rfl, rfl⟩
  · rw [p2, p3]
    simp only [eb1, eb2, eb3, eb4, eb5, eb6, eb7, eb8, ed1, ed2, ed3, ed4, ed5, ed6, ed7, ed8] at *
    have n0 : ¬ b1 = d1 := by omega
    have n1 : ¬ b1 / 64 = d1 / 64 := by omega
    have n2 : ¬ b2 / 64 = d2 / 64 := by omega
    have n3 : ¬ b3 / 64 = d3 / 64 := by omega
    have n4 : ¬ b4 / 64 = d4 / 64 := by omega
    have y5 : b5 / 64 = d5 / 64 := by omega
    rw [if_neg (by omega : ¬ d ≤ b), if_neg n0, if_neg n1, if_neg n2, if_neg n3, if_neg n4, if_pos y5, if_neg (by omega : ¬ d ≤ b), if_neg n0, if_neg n1, if_neg n2, if_neg n3, if_neg n4, if_pos y5]
    exact ⟨rfl, rfl⟩
  · rw [p2, p3]
    simp only [eb1, eb2, eb3, eb4, eb5, eb6, eb7, eb8, ed1, ed2, ed3, ed4, ed5, ed6, ed7, ed8] at *
    have n0 : ¬ b1 = d1 := by omega
    have n1 : ¬ b1 / 64 = d1 / 64 := by omega
    have n2 : ¬ b2 / 64 = d2 / 64 := by omega
    have n3 : ¬ b3 / 64 = d3 / 64 := by omega
    have n4 : ¬ b4 / 64 = d4 / 64 := by omega
    have n5 : ¬ b5 / 64 = d5 / 64 := by omega
    have y6 : b6 / 64 = d6 / 64 := by omega
    rw [if_neg (by omega : ¬ d ≤ b), if_neg n0, if_neg n1, if_neg n2, if_neg n3, if_neg n4, if_neg n5, if_pos y6, if_neg (by omega : ¬ d ≤ b), if_neg n0, if_neg n1, if_neg n2, if_neg n3, if_neg n4, if_neg n5, if_pos y6]
    exact ⟨rfl, rfl⟩
  · rw [p2, p3]
    simp only [eb1, eb2, eb3, eb4, eb5, eb6, eb7, eb8, ed1, ed2, ed3, ed4, ed5, ed6, ed7, ed8] at *
    have n0 : ¬ b1 = d1 := by omega
    have n1 : ¬ b1 / 64 = d1 / 64 := by omega
    have n2 : ¬ b2 / 64 = d2 / 64 := by omega
    have n3 : ¬ b3 / 64 = d3 / 64 := by omega
    have n4 : ¬ b4 / 64 = d4 / 64 := by omega
    have n5 : ¬ b5 / 64 = d5 / 64 := by omega
    have n6 : ¬ b6 / 64 = d6 / 64 := by omega
    have y7 : b7 / 64 = d7 / 64 := by omega
    rw [if_neg (by omega : ¬ d ≤ b), if_neg n0, if_neg n1, if_neg n2, if_neg n3, if_neg n4, if_neg n5, if_neg n6, if_pos y7, if_neg (by omega : ¬ d ≤ b), if_neg n0, if_neg n1, if_neg n2, if_neg n3, if_neg n4, if_neg n5, if_neg n6, if_pos y7]
    exact ⟨rfl, rfl⟩
  · rw [p2, p3]
    simp only [eb1, eb2, eb3, eb4, eb5, eb6, eb7, eb8, ed1, ed2, ed3, ed4, ed5, ed6, ed7, ed8] at *
    have n0 : ¬ b1 = d1 := by omega
    have n1 : ¬ b1 / 64 = d1 / 64 := by omega
    have n2 : ¬ b2 / 64 = d2 / 64 := by omega
    have n3 : ¬ b3 / 64 = d3 / 64 := by omega
    have n4 : ¬ b4 / 64 = d4 / 64 := by omega
    have n5 : ¬ b5 / 64 = d5 / 64 := by omega
    have n6 : ¬ b6 / 64 = d6 / 64 := by omega
    have n7 : ¬ b7 / 64 = d7 / 64 := by omega
    rw [if_neg (by omega : ¬ d ≤ b), if_neg n0, if_neg n1, if_neg n2, if_neg n3, if_neg n4, if_neg n5, if_neg n6, if_neg n7, if_neg (by omega : ¬ d ≤ b), if_neg n0, if_neg n1, if_neg n2, if_neg n3, if_neg n4, if_neg n5, if_neg n6, if_neg n7]
    exact ⟨rfl, rfl⟩
theorem rspan_any (b l s : Int) (w : World) (h0 : 0 ≤ b) (h1 : b ≤ 18446744073709551615) :
    Calls Try.prog 11 #[.int .u64 b, .agg #[.int .i64 l, .int .i64 s]] w fun e w' => e = .returned (.tuple #[.int .u64 (spanF b l s), .int .u64 (spanT b l s), .bool (spanB b l s)]) ∧ Below w.heap.size w w' := by
  rcases right_cases l s with hr | ⟨rfl, rfl⟩ | ⟨rfl, rfl⟩ | ⟨hl0, hl8, hs1, hs64⟩
  · have e1 : spanB b l s = false := by simp [spanB, hr]
    rw [spanF, spanT, e1, if_pos rfl, if_pos rfl]
    have hcs : (l = -1 ∧ s ≠ 0) ∨ (l = 8 ∧ s ≠ 0) ∨ (l ≠ -1 ∧ l < 0) ∨ (8 < l) ∨ (0 ≤ l ∧ l ≤ 7 ∧ s < 1) ∨ (0 ≤ l ∧ l ≤ 7 ∧ 63 < s) := by
      simp [rightB] at hr
      omega
    rcases hcs with ⟨rfl, hs⟩ | ⟨rfl, hs⟩ | ⟨k1, k2⟩ | k1 | ⟨k1, k2, k3⟩ | ⟨k1, k2, k3⟩
    · exact rspan_n1 b s w h0 h1 hs
    · exact rspan_n2 b s w h0 h1 hs
    · exact rspan_n3 b l s w h0 h1 k1 k2
    · exact rspan_n4 b l s w h0 h1 k1
    · exact rspan_n5 b l s w h0 h1 k1 k2 k3
    · exact rspan_n6 b l s w h0 h1 k1 k2 k3
  · obtain ⟨e1, e2, e3⟩ := span_late' b
    rw [e1, e2, e3]
    exact rspan_late b w h0 h1
  · obtain ⟨e1, e2⟩ := span_far' b
    by_cases hq : b / 281474976710656 < 65535
    · obtain ⟨e3, e4⟩ := e2 hq
      rw [e1, e3, e4, decide_eq_true hq]
      exact rspan_far_yes b w h0 h1 hq
    · have eB : spanB b 8 0 = false := by rw [e1]; simpa using hq
      rw [spanF, spanT, eB, if_pos rfl, if_pos rfl]
      exact rspan_far_no b w h0 h1 (by omega)
  · have hl : l = 0 ∨ l = 1 ∨ l = 2 ∨ l = 3 ∨ l = 4 ∨ l = 5 ∨ l = 6 ∨ l = 7 := by omega
    rcases hl with rfl | rfl | rfl | rfl | rfl | rfl | rfl | rfl
    · obtain ⟨e1, e2, e3⟩ := span_lit0 b s h0 h1 hs1 hs64
      by_cases hq : b % 64 < s
      · obtain ⟨e4, e5⟩ := e2 hq
        rw [e1, e4, e5, decide_eq_true hq]
        exact rspan_in_yes0 b s w h0 h1 hs1 hs64 hq
      · obtain ⟨e4, e5⟩ := e3 (by omega)
        rw [e1, e4, e5, decide_eq_false hq]
        exact rspan_in_no0 b s w h0 h1 hs1 hs64 (by omega)
    · obtain ⟨e1, e2, e3⟩ := span_lit1 b s h0 h1 hs1 hs64
      by_cases hq : b / 64 % 64 < s
      · obtain ⟨e4, e5⟩ := e2 hq
        rw [e1, e4, e5, decide_eq_true hq]
        exact rspan_in_yes1 b s w h0 h1 hs1 hs64 hq
      · obtain ⟨e4, e5⟩ := e3 (by omega)
        rw [e1, e4, e5, decide_eq_false hq]
        exact rspan_in_no1 b s w h0 h1 hs1 hs64 (by omega)
    · obtain ⟨e1, e2, e3⟩ := span_lit2 b s h0 h1 hs1 hs64
      by_cases hq : b / 4096 % 64 < s
      · obtain ⟨e4, e5⟩ := e2 hq
        rw [e1, e4, e5, decide_eq_true hq]
        exact rspan_in_yes2 b s w h0 h1 hs1 hs64 hq
      · obtain ⟨e4, e5⟩ := e3 (by omega)
        rw [e1, e4, e5, decide_eq_false hq]
        exact rspan_in_no2 b s w h0 h1 hs1 hs64 (by omega)
    · obtain ⟨e1, e2, e3⟩ := span_lit3 b s h0 h1 hs1 hs64
      by_cases hq : b / 262144 % 64 < s
      · obtain ⟨e4, e5⟩ := e2 hq
        rw [e1, e4, e5, decide_eq_true hq]
        exact rspan_in_yes3 b s w h0 h1 hs1 hs64 hq
      · obtain ⟨e4, e5⟩ := e3 (by omega)
        rw [e1, e4, e5, decide_eq_false hq]
        exact rspan_in_no3 b s w h0 h1 hs1 hs64 (by omega)
    · obtain ⟨e1, e2, e3⟩ := span_lit4 b s h0 h1 hs1 hs64
      by_cases hq : b / 16777216 % 64 < s
      · obtain ⟨e4, e5⟩ := e2 hq
        rw [e1, e4, e5, decide_eq_true hq]
        exact rspan_in_yes4 b s w h0 h1 hs1 hs64 hq
      · obtain ⟨e4, e5⟩ := e3 (by omega)
        rw [e1, e4, e5, decide_eq_false hq]
        exact rspan_in_no4 b s w h0 h1 hs1 hs64 (by omega)
    · obtain ⟨e1, e2, e3⟩ := span_lit5 b s h0 h1 hs1 hs64
      by_cases hq : b / 1073741824 % 64 < s
      · obtain ⟨e4, e5⟩ := e2 hq
        rw [e1, e4, e5, decide_eq_true hq]
        exact rspan_in_yes5 b s w h0 h1 hs1 hs64 hq
      · obtain ⟨e4, e5⟩ := e3 (by omega)
        rw [e1, e4, e5, decide_eq_false hq]
        exact rspan_in_no5 b s w h0 h1 hs1 hs64 (by omega)
    · obtain ⟨e1, e2, e3⟩ := span_lit6 b s h0 h1 hs1 hs64
      by_cases hq : b / 68719476736 % 64 < s
      · obtain ⟨e4, e5⟩ := e2 hq
        rw [e1, e4, e5, decide_eq_true hq]
        exact rspan_in_yes6 b s w h0 h1 hs1 hs64 hq
      · obtain ⟨e4, e5⟩ := e3 (by omega)
        rw [e1, e4, e5, decide_eq_false hq]
        exact rspan_in_no6 b s w h0 h1 hs1 hs64 (by omega)
    · obtain ⟨e1, e2, e3⟩ := span_lit7 b s h0 h1 hs1 hs64
      by_cases hq : b / 4398046511104 % 64 < s
      · obtain ⟨e4, e5⟩ := e2 hq
        rw [e1, e4, e5, decide_eq_true hq]
        exact rspan_in_yes7 b s w h0 h1 hs1 hs64 hq
      · obtain ⟨e4, e5⟩ := e3 (by omega)
        rw [e1, e4, e5, decide_eq_false hq]
        exact rspan_in_no7 b s w h0 h1 hs1 hs64 (by omega)
set_option maxHeartbeats 8000000 in
set_option maxRecDepth 100000 in
theorem PlaceOf_late (b d to : Int) (w : World) (h0 : 0 ≤ b) (h1 : b ≤ 18446744073709551615) (k0 : 0 ≤ d) (k1 : d ≤ 18446744073709551615) (eB : spanB b (-1) 0 = true) :
    Calls Try.prog 4 #[.int .u64 b, .int .u64 d, .int .u64 to, .agg #[.int .i64 (-1), .int .i64 0]] w fun e w' => e = .returned (.bool true) ∧ Below w.heap.size w w' := by
  have hr := of_right b d h0 h1 k0 k1
  obtain ⟨q1, q2⟩ := rof_eq b d h0 h1 k0 k1
  have eR : rightB (-1) 0 = true := by simp [rightB] <;> omega
  have eT : touchB b to (-1) 0 = decide (spanF b (-1) 0 ≤ to) := by simp [touchB, eB]
  go_enter Try.func4, Try.ntmps4
  go_wp2_with fail
  refine calls_box ?_
  intro W hB hb _
  obtain ⟨hc, hf⟩ := Ext.cells hb
  refine (of_any _ _ _ h0 h1 k0 k1).mono ?_
  rintro e wr ⟨rfl, hbr⟩
  obtain ⟨x, rfl⟩ := Ext.of hbr
  clear hbr
  have hlt := block_lt (x.block hb)
  go_wp2_with fail
  refine calls_box ?_
  intro W2 hB2 hb2 _
  have hb' := block_below (x.block hb) hB2
  clear hc hf
  obtain ⟨hc, hf⟩ := Ext.cells hb'
  obtain ⟨hc2, hf2⟩ := Ext.cells hb2
  refine (span_any _ _ _ _ h0 h1).mono ?_
  rintro e wr ⟨rfl, hbr⟩
  obtain ⟨y, rfl⟩ := Ext.of hbr
  clear hbr
  go_wp2_with (first | (go_at_call 11; refine (rspan_any _ _ _ _ h0 h1).mono ?_; rintro e wr ⟨rfl, hbr⟩; obtain ⟨y, rfl⟩ := Ext.step _ hbr; clear hbr))
  refine wp_region_ext _ (by kernel_rfl) (by kernel_rfl) ?_
  repeat (go_big_quiet_step (first | (go_at_call 12; refine Ext.call (late_any _)) | (go_at_call 13; refine Ext.call (far_any _))))
  refine wpQuiet_nil ?_
  rintro _ ⟨z, rfl⟩
  go_wp2_with fail
  refine wp_region_ext _ (by kernel_rfl) (by kernel_rfl) ?_
  repeat (go_big_quiet_step (first | (go_at_call 10; refine Ext.call (known18 _)) | (go_at_call 14; refine Ext.call (rof_any _ _ _ h0 h1 k0 k1)) | (go_at_call 15; refine Ext.call (right_any _ _ _)) | (go_at_call 16; refine Ext.call (touched_any _ _ _ _ _ h0 h1))))
  refine wpQuiet_nil ?_
  rintro _ ⟨z2, rfl⟩
  go_wp2_with fail
  go_ret
  exact ⟨rfl, below_then (below_then (below_then hB (Ext.ok _)) hB2) (Ext.ok _)⟩
set_option maxHeartbeats 8000000 in
set_option maxRecDepth 100000 in
theorem PlaceOf_far_y (b d to : Int) (w : World) (h0 : 0 ≤ b) (h1 : b ≤ 18446744073709551615) (k0 : 0 ≤ d) (k1 : d ≤ 18446744073709551615) (eB : spanB b 8 0 = true) :
    Calls Try.prog 4 #[.int .u64 b, .int .u64 d, .int .u64 to, .agg #[.int .i64 8, .int .i64 0]] w fun e w' => e = .returned (.bool true) ∧ Below w.heap.size w w' := by
  have hr := of_right b d h0 h1 k0 k1
  obtain ⟨q1, q2⟩ := rof_eq b d h0 h1 k0 k1
  have eR : rightB 8 0 = true := by simp [rightB] <;> omega
  have eT : touchB b to 8 0 = decide (spanF b 8 0 ≤ to) := by simp [touchB, eB]
  go_enter Try.func4, Try.ntmps4
  go_wp2_with fail
  refine calls_box ?_
  intro W hB hb _
  obtain ⟨hc, hf⟩ := Ext.cells hb
  refine (of_any _ _ _ h0 h1 k0 k1).mono ?_
  rintro e wr ⟨rfl, hbr⟩
  obtain ⟨x, rfl⟩ := Ext.of hbr
  clear hbr
  have hlt := block_lt (x.block hb)
  go_wp2_with fail
  refine calls_box ?_
  intro W2 hB2 hb2 _
  have hb' := block_below (x.block hb) hB2
  clear hc hf
  obtain ⟨hc, hf⟩ := Ext.cells hb'
  obtain ⟨hc2, hf2⟩ := Ext.cells hb2
  refine (span_any _ _ _ _ h0 h1).mono ?_
  rintro e wr ⟨rfl, hbr⟩
  obtain ⟨y, rfl⟩ := Ext.of hbr
  clear hbr
  go_wp2_with (first | (go_at_call 11; refine (rspan_any _ _ _ _ h0 h1).mono ?_; rintro e wr ⟨rfl, hbr⟩; obtain ⟨y, rfl⟩ := Ext.step _ hbr; clear hbr))
  refine wp_region_ext _ (by kernel_rfl) (by kernel_rfl) ?_
  repeat (go_big_quiet_step (first | (go_at_call 12; refine Ext.call (late_any _)) | (go_at_call 13; refine Ext.call (far_any _))))
  refine wpQuiet_nil ?_
  rintro _ ⟨z, rfl⟩
  go_wp2_with fail
  refine wp_region_ext _ (by kernel_rfl) (by kernel_rfl) ?_
  repeat (go_big_quiet_step (first | (go_at_call 10; refine Ext.call (known18 _)) | (go_at_call 14; refine Ext.call (rof_any _ _ _ h0 h1 k0 k1)) | (go_at_call 15; refine Ext.call (right_any _ _ _)) | (go_at_call 16; refine Ext.call (touched_any _ _ _ _ _ h0 h1))))
  refine wpQuiet_nil ?_
  rintro _ ⟨z2, rfl⟩
  go_wp2_with fail
  go_ret
  exact ⟨rfl, below_then (below_then (below_then hB (Ext.ok _)) hB2) (Ext.ok _)⟩
set_option maxHeartbeats 8000000 in
set_option maxRecDepth 100000 in
theorem PlaceOf_far_n (b d to : Int) (w : World) (h0 : 0 ≤ b) (h1 : b ≤ 18446744073709551615) (k0 : 0 ≤ d) (k1 : d ≤ 18446744073709551615) (eB : spanB b 8 0 = false) :
    Calls Try.prog 4 #[.int .u64 b, .int .u64 d, .int .u64 to, .agg #[.int .i64 8, .int .i64 0]] w fun e w' => e = .returned (.bool true) ∧ Below w.heap.size w w' := by
  have hr := of_right b d h0 h1 k0 k1
  obtain ⟨q1, q2⟩ := rof_eq b d h0 h1 k0 k1
  have eR : rightB 8 0 = true := by simp [rightB] <;> omega
  have eT : touchB b to 8 0 = false := by simp [touchB, eB]
  go_enter Try.func4, Try.ntmps4
  go_wp2_with fail
  refine calls_box ?_
  intro W hB hb _
  obtain ⟨hc, hf⟩ := Ext.cells hb
  refine (of_any _ _ _ h0 h1 k0 k1).mono ?_
  rintro e wr ⟨rfl, hbr⟩
  obtain ⟨x, rfl⟩ := Ext.of hbr
  clear hbr
  have hlt := block_lt (x.block hb)
  go_wp2_with fail
  refine calls_box ?_
  intro W2 hB2 hb2 _
  have hb' := block_below (x.block hb) hB2
  clear hc hf
  obtain ⟨hc, hf⟩ := Ext.cells hb'
  obtain ⟨hc2, hf2⟩ := Ext.cells hb2
  refine (span_any _ _ _ _ h0 h1).mono ?_
  rintro e wr ⟨rfl, hbr⟩
  obtain ⟨y, rfl⟩ := Ext.of hbr
  clear hbr
  go_wp2_with (first | (go_at_call 11; refine (rspan_any _ _ _ _ h0 h1).mono ?_; rintro e wr ⟨rfl, hbr⟩; obtain ⟨y, rfl⟩ := Ext.step _ hbr; clear hbr))
  refine wp_region_ext _ (by kernel_rfl) (by kernel_rfl) ?_
  repeat (go_big_quiet_step (first | (go_at_call 12; refine Ext.call (late_any _)) | (go_at_call 13; refine Ext.call (far_any _))))
  refine wpQuiet_nil ?_
  rintro _ ⟨z, rfl⟩
  go_wp2_with fail
  refine wp_region_ext _ (by kernel_rfl) (by kernel_rfl) ?_
  repeat (go_big_quiet_step (first | (go_at_call 10; refine Ext.call (known18 _)) | (go_at_call 14; refine Ext.call (rof_any _ _ _ h0 h1 k0 k1)) | (go_at_call 15; refine Ext.call (right_any _ _ _)) | (go_at_call 16; refine Ext.call (touched_any _ _ _ _ _ h0 h1))))
  refine wpQuiet_nil ?_
  rintro _ ⟨z2, rfl⟩
  go_wp2_with fail
  go_ret
  exact ⟨rfl, below_then (below_then (below_then hB (Ext.ok _)) hB2) (Ext.ok _)⟩
set_option maxHeartbeats 8000000 in
set_option maxRecDepth 100000 in
theorem PlaceOf_late_s (b d to s : Int) (w : World) (h0 : 0 ≤ b) (h1 : b ≤ 18446744073709551615) (k0 : 0 ≤ d) (k1 : d ≤ 18446744073709551615) (hs : s ≠ 0) (eB : spanB b (-1) s = false) :
    Calls Try.prog 4 #[.int .u64 b, .int .u64 d, .int .u64 to, .agg #[.int .i64 (-1), .int .i64 s]] w fun e w' => e = .returned (.bool true) ∧ Below w.heap.size w w' := by
  have hr := of_right b d h0 h1 k0 k1
  obtain ⟨q1, q2⟩ := rof_eq b d h0 h1 k0 k1
  have eR : rightB (-1) s = false := by simp [rightB] <;> omega
  have eT : touchB b to (-1) s = false := by simp [touchB, eB]
  have f1 : (s == 0) = false := by simpa using hs
  go_enter Try.func4, Try.ntmps4
  go_wp2_with fail
  refine calls_box ?_
  intro W hB hb _
  obtain ⟨hc, hf⟩ := Ext.cells hb
  refine (of_any _ _ _ h0 h1 k0 k1).mono ?_
  rintro e wr ⟨rfl, hbr⟩
  obtain ⟨x, rfl⟩ := Ext.of hbr
  clear hbr
  have hlt := block_lt (x.block hb)
  go_wp2_with fail
  refine calls_box ?_
  intro W2 hB2 hb2 _
  have hb' := block_below (x.block hb) hB2
  clear hc hf
  obtain ⟨hc, hf⟩ := Ext.cells hb'
  obtain ⟨hc2, hf2⟩ := Ext.cells hb2
  refine (span_any _ _ _ _ h0 h1).mono ?_
  rintro e wr ⟨rfl, hbr⟩
  obtain ⟨y, rfl⟩ := Ext.of hbr
  clear hbr
  go_wp2_with (first | (go_at_call 11; refine (rspan_any _ _ _ _ h0 h1).mono ?_; rintro e wr ⟨rfl, hbr⟩; obtain ⟨y, rfl⟩ := Ext.step _ hbr; clear hbr))
  refine wp_region_ext _ (by kernel_rfl) (by kernel_rfl) ?_
  repeat (go_big_quiet_step (first | (go_at_call 12; refine Ext.call (late_any _)) | (go_at_call 13; refine Ext.call (far_any _))))
  refine wpQuiet_nil ?_
  rintro _ ⟨z, rfl⟩
  go_wp2_with fail
  refine wp_region_ext _ (by kernel_rfl) (by kernel_rfl) ?_
  repeat (go_big_quiet_step (first | (go_at_call 10; refine Ext.call (known18 _)) | (go_at_call 14; refine Ext.call (rof_any _ _ _ h0 h1 k0 k1)) | (go_at_call 15; refine Ext.call (right_any _ _ _)) | (go_at_call 16; refine Ext.call (touched_any _ _ _ _ _ h0 h1))))
  refine wpQuiet_nil ?_
  rintro _ ⟨z2, rfl⟩
  go_wp2_with fail
  go_ret
  exact ⟨rfl, below_then (below_then (below_then hB (Ext.ok _)) hB2) (Ext.ok _)⟩
set_option maxHeartbeats 8000000 in
set_option maxRecDepth 100000 in
theorem PlaceOf_far_s (b d to s : Int) (w : World) (h0 : 0 ≤ b) (h1 : b ≤ 18446744073709551615) (k0 : 0 ≤ d) (k1 : d ≤ 18446744073709551615) (hs : s ≠ 0) (eB : spanB b 8 s = false) :
    Calls Try.prog 4 #[.int .u64 b, .int .u64 d, .int .u64 to, .agg #[.int .i64 8, .int .i64 s]] w fun e w' => e = .returned (.bool true) ∧ Below w.heap.size w w' := by
  have hr := of_right b d h0 h1 k0 k1
  obtain ⟨q1, q2⟩ := rof_eq b d h0 h1 k0 k1
  have eR : rightB 8 s = false := by simp [rightB] <;> omega
  have eT : touchB b to 8 s = false := by simp [touchB, eB]
  have f1 : (s == 0) = false := by simpa using hs
  go_enter Try.func4, Try.ntmps4
  go_wp2_with fail
  refine calls_box ?_
  intro W hB hb _
  obtain ⟨hc, hf⟩ := Ext.cells hb
  refine (of_any _ _ _ h0 h1 k0 k1).mono ?_
  rintro e wr ⟨rfl, hbr⟩
  obtain ⟨x, rfl⟩ := Ext.of hbr
  clear hbr
  have hlt := block_lt (x.block hb)
  go_wp2_with fail
  refine calls_box ?_
  intro W2 hB2 hb2 _
  have hb' := block_below (x.block hb) hB2
  clear hc hf
  obtain ⟨hc, hf⟩ := Ext.cells hb'
  obtain ⟨hc2, hf2⟩ := Ext.cells hb2
  refine (span_any _ _ _ _ h0 h1).mono ?_
  rintro e wr ⟨rfl, hbr⟩
  obtain ⟨y, rfl⟩ := Ext.of hbr
  clear hbr
  go_wp2_with (first | (go_at_call 11; refine (rspan_any _ _ _ _ h0 h1).mono ?_; rintro e wr ⟨rfl, hbr⟩; obtain ⟨y, rfl⟩ := Ext.step _ hbr; clear hbr))
  refine wp_region_ext _ (by kernel_rfl) (by kernel_rfl) ?_
  repeat (go_big_quiet_step (first | (go_at_call 12; refine Ext.call (late_any _)) | (go_at_call 13; refine Ext.call (far_any _))))
  refine wpQuiet_nil ?_
  rintro _ ⟨z, rfl⟩
  go_wp2_with fail
  refine wp_region_ext _ (by kernel_rfl) (by kernel_rfl) ?_
  repeat (go_big_quiet_step (first | (go_at_call 10; refine Ext.call (known18 _)) | (go_at_call 14; refine Ext.call (rof_any _ _ _ h0 h1 k0 k1)) | (go_at_call 15; refine Ext.call (right_any _ _ _)) | (go_at_call 16; refine Ext.call (touched_any _ _ _ _ _ h0 h1))))
  refine wpQuiet_nil ?_
  rintro _ ⟨z2, rfl⟩
  go_wp2_with fail
  go_ret
  exact ⟨rfl, below_then (below_then (below_then hB (Ext.ok _)) hB2) (Ext.ok _)⟩
set_option maxHeartbeats 8000000 in
set_option maxRecDepth 100000 in
theorem PlaceOf_in_y (b d to l s : Int) (w : World) (h0 : 0 ≤ b) (h1 : b ≤ 18446744073709551615) (k0 : 0 ≤ d) (k1 : d ≤ 18446744073709551615) (hl0 : 0 ≤ l) (hl8 : l < 8) (hs1 : 1 ≤ s) (hs64 : s < 64) (eB : spanB b l s = true) :
    Calls Try.prog 4 #[.int .u64 b, .int .u64 d, .int .u64 to, .agg #[.int .i64 l, .int .i64 s]] w fun e w' => e = .returned (.bool true) ∧ Below w.heap.size w w' := by
  have hr := of_right b d h0 h1 k0 k1
  obtain ⟨q1, q2⟩ := rof_eq b d h0 h1 k0 k1
  have eR : rightB l s = true := by simp [rightB] <;> omega
  have eT : touchB b to l s = decide (spanF b l s ≤ to) := by simp [touchB, eB]
  have f1 : (l == -1) = false := by simp; omega
  have f2 : (l == 8) = false := by simp; omega
  have f3 : decide (0 ≤ l) = true := by simp; omega
  have f4 : decide (l < 8) = true := by simp; omega
  have f5 : decide (0 < s) = true := by simp; omega
  have f6 : decide (s < 64) = true := by simp; omega
  go_enter Try.func4, Try.ntmps4
  go_wp2_with fail
  refine calls_box ?_
  intro W hB hb _
  obtain ⟨hc, hf⟩ := Ext.cells hb
  refine (of_any _ _ _ h0 h1 k0 k1).mono ?_
  rintro e wr ⟨rfl, hbr⟩
  obtain ⟨x, rfl⟩ := Ext.of hbr
  clear hbr
  have hlt := block_lt (x.block hb)
  go_wp2_with fail
  refine calls_box ?_
  intro W2 hB2 hb2 _
  have hb' := block_below (x.block hb) hB2
  clear hc hf
  obtain ⟨hc, hf⟩ := Ext.cells hb'
  obtain ⟨hc2, hf2⟩ := Ext.cells hb2
  refine (span_any _ _ _ _ h0 h1).mono ?_
  rintro e wr ⟨rfl, hbr⟩
  obtain ⟨y, rfl⟩ := Ext.of hbr
  clear hbr
  go_wp2_with (first | (go_at_call 11; refine (rspan_any _ _ _ _ h0 h1).mono ?_; rintro e wr ⟨rfl, hbr⟩; obtain ⟨y, rfl⟩ := Ext.step _ hbr; clear hbr))
  refine wp_region_ext _ (by kernel_rfl) (by kernel_rfl) ?_
  repeat (go_big_quiet_step (first | (go_at_call 12; refine Ext.call (late_any _)) | (go_at_call 13; refine Ext.call (far_any _))))
  refine wpQuiet_nil ?_
  rintro _ ⟨z, rfl⟩
  go_wp2_with fail
  refine wp_region_ext _ (by kernel_rfl) (by kernel_rfl) ?_
  repeat (go_big_quiet_step (first | (go_at_call 10; refine Ext.call (known18 _)) | (go_at_call 14; refine Ext.call (rof_any _ _ _ h0 h1 k0 k1)) | (go_at_call 15; refine Ext.call (right_any _ _ _)) | (go_at_call 16; refine Ext.call (touched_any _ _ _ _ _ h0 h1))))
  refine wpQuiet_nil ?_
  rintro _ ⟨z2, rfl⟩
  go_wp2_with fail
  go_ret
  exact ⟨rfl, below_then (below_then (below_then hB (Ext.ok _)) hB2) (Ext.ok _)⟩
set_option maxHeartbeats 8000000 in
set_option maxRecDepth 100000 in
theorem PlaceOf_in_n (b d to l s : Int) (w : World) (h0 : 0 ≤ b) (h1 : b ≤ 18446744073709551615) (k0 : 0 ≤ d) (k1 : d ≤ 18446744073709551615) (hl0 : 0 ≤ l) (hl8 : l < 8) (hs1 : 1 ≤ s) (hs64 : s < 64) (eB : spanB b l s = false) :
    Calls Try.prog 4 #[.int .u64 b, .int .u64 d, .int .u64 to, .agg #[.int .i64 l, .int .i64 s]] w fun e w' => e = .returned (.bool true) ∧ Below w.heap.size w w' := by
  have hr := of_right b d h0 h1 k0 k1
  obtain ⟨q1, q2⟩ := rof_eq b d h0 h1 k0 k1
  have eR : rightB l s = true := by simp [rightB] <;> omega
  have eT : touchB b to l s = false := by simp [touchB, eB]
  have f1 : (l == -1) = false := by simp; omega
  have f2 : (l == 8) = false := by simp; omega
  have f3 : decide (0 ≤ l) = true := by simp; omega
  have f4 : decide (l < 8) = true := by simp; omega
  have f5 : decide (0 < s) = true := by simp; omega
  have f6 : decide (s < 64) = true := by simp; omega
  go_enter Try.func4, Try.ntmps4
  go_wp2_with fail
  refine calls_box ?_
  intro W hB hb _
  obtain ⟨hc, hf⟩ := Ext.cells hb
  refine (of_any _ _ _ h0 h1 k0 k1).mono ?_
  rintro e wr ⟨rfl, hbr⟩
  obtain ⟨x, rfl⟩ := Ext.of hbr
  clear hbr
  have hlt := block_lt (x.block hb)
  go_wp2_with fail
  refine calls_box ?_
  intro W2 hB2 hb2 _
  have hb' := block_below (x.block hb) hB2
  clear hc hf
  obtain ⟨hc, hf⟩ := Ext.cells hb'
  obtain ⟨hc2, hf2⟩ := Ext.cells hb2
  refine (span_any _ _ _ _ h0 h1).mono ?_
  rintro e wr ⟨rfl, hbr⟩
  obtain ⟨y, rfl⟩ := Ext.of hbr
  clear hbr
  go_wp2_with (first | (go_at_call 11; refine (rspan_any _ _ _ _ h0 h1).mono ?_; rintro e wr ⟨rfl, hbr⟩; obtain ⟨y, rfl⟩ := Ext.step _ hbr; clear hbr))
  refine wp_region_ext _ (by kernel_rfl) (by kernel_rfl) ?_
  repeat (go_big_quiet_step (first | (go_at_call 12; refine Ext.call (late_any _)) | (go_at_call 13; refine Ext.call (far_any _))))
  refine wpQuiet_nil ?_
  rintro _ ⟨z, rfl⟩
  go_wp2_with fail
  refine wp_region_ext _ (by kernel_rfl) (by kernel_rfl) ?_
  repeat (go_big_quiet_step (first | (go_at_call 10; refine Ext.call (known18 _)) | (go_at_call 14; refine Ext.call (rof_any _ _ _ h0 h1 k0 k1)) | (go_at_call 15; refine Ext.call (right_any _ _ _)) | (go_at_call 16; refine Ext.call (touched_any _ _ _ _ _ h0 h1))))
  refine wpQuiet_nil ?_
  rintro _ ⟨z2, rfl⟩
  go_wp2_with fail
  go_ret
  exact ⟨rfl, below_then (below_then (below_then hB (Ext.ok _)) hB2) (Ext.ok _)⟩
set_option maxHeartbeats 8000000 in
set_option maxRecDepth 100000 in
theorem PlaceOf_in_lo (b d to l s : Int) (w : World) (h0 : 0 ≤ b) (h1 : b ≤ 18446744073709551615) (k0 : 0 ≤ d) (k1 : d ≤ 18446744073709551615) (hl0 : 0 ≤ l) (hl8 : l < 8) (hs1 : s < 1) (eB : spanB b l s = false) :
    Calls Try.prog 4 #[.int .u64 b, .int .u64 d, .int .u64 to, .agg #[.int .i64 l, .int .i64 s]] w fun e w' => e = .returned (.bool true) ∧ Below w.heap.size w w' := by
  have hr := of_right b d h0 h1 k0 k1
  obtain ⟨q1, q2⟩ := rof_eq b d h0 h1 k0 k1
  have eR : rightB l s = false := by simp [rightB] <;> omega
  have eT : touchB b to l s = false := by simp [touchB, eB]
  have f1 : (l == -1) = false := by simp; omega
  have f2 : (l == 8) = false := by simp; omega
  have f3 : decide (0 ≤ l) = true := by simp; omega
  have f4 : decide (l < 8) = true := by simp; omega
  have f5 : decide (0 < s) = false := by simp; omega
  go_enter Try.func4, Try.ntmps4
  go_wp2_with fail
  refine calls_box ?_
  intro W hB hb _
  obtain ⟨hc, hf⟩ := Ext.cells hb
  refine (of_any _ _ _ h0 h1 k0 k1).mono ?_
  rintro e wr ⟨rfl, hbr⟩
  obtain ⟨x, rfl⟩ := Ext.of hbr
  clear hbr
  have hlt := block_lt (x.block hb)
  go_wp2_with fail
  refine calls_box ?_
  intro W2 hB2 hb2 _
  have hb' := block_below (x.block hb) hB2
  clear hc hf
  obtain ⟨hc, hf⟩ := Ext.cells hb'
  obtain ⟨hc2, hf2⟩ := Ext.cells hb2
  refine (span_any _ _ _ _ h0 h1).mono ?_
  rintro e wr ⟨rfl, hbr⟩
  obtain ⟨y, rfl⟩ := Ext.of hbr
  clear hbr
  go_wp2_with (first | (go_at_call 11; refine (rspan_any _ _ _ _ h0 h1).mono ?_; rintro e wr ⟨rfl, hbr⟩; obtain ⟨y, rfl⟩ := Ext.step _ hbr; clear hbr))
  refine wp_region_ext _ (by kernel_rfl) (by kernel_rfl) ?_
  repeat (go_big_quiet_step (first | (go_at_call 12; refine Ext.call (late_any _)) | (go_at_call 13; refine Ext.call (far_any _))))
  refine wpQuiet_nil ?_
  rintro _ ⟨z, rfl⟩
  go_wp2_with fail
  refine wp_region_ext _ (by kernel_rfl) (by kernel_rfl) ?_
  repeat (go_big_quiet_step (first | (go_at_call 10; refine Ext.call (known18 _)) | (go_at_call 14; refine Ext.call (rof_any _ _ _ h0 h1 k0 k1)) | (go_at_call 15; refine Ext.call (right_any _ _ _)) | (go_at_call 16; refine Ext.call (touched_any _ _ _ _ _ h0 h1))))
  refine wpQuiet_nil ?_
  rintro _ ⟨z2, rfl⟩
  go_wp2_with fail
  go_ret
  exact ⟨rfl, below_then (below_then (below_then hB (Ext.ok _)) hB2) (Ext.ok _)⟩
set_option maxHeartbeats 8000000 in
set_option maxRecDepth 100000 in
theorem PlaceOf_in_hi (b d to l s : Int) (w : World) (h0 : 0 ≤ b) (h1 : b ≤ 18446744073709551615) (k0 : 0 ≤ d) (k1 : d ≤ 18446744073709551615) (hl0 : 0 ≤ l) (hl8 : l < 8) (hs1 : 64 ≤ s) (eB : spanB b l s = false) :
    Calls Try.prog 4 #[.int .u64 b, .int .u64 d, .int .u64 to, .agg #[.int .i64 l, .int .i64 s]] w fun e w' => e = .returned (.bool true) ∧ Below w.heap.size w w' := by
  have hr := of_right b d h0 h1 k0 k1
  obtain ⟨q1, q2⟩ := rof_eq b d h0 h1 k0 k1
  have eR : rightB l s = false := by simp [rightB] <;> omega
  have eT : touchB b to l s = false := by simp [touchB, eB]
  have f1 : (l == -1) = false := by simp; omega
  have f2 : (l == 8) = false := by simp; omega
  have f3 : decide (0 ≤ l) = true := by simp; omega
  have f4 : decide (l < 8) = true := by simp; omega
  have f5 : decide (0 < s) = true := by simp; omega
  have f6 : decide (s < 64) = false := by simp; omega
  go_enter Try.func4, Try.ntmps4
  go_wp2_with fail
  refine calls_box ?_
  intro W hB hb _
  obtain ⟨hc, hf⟩ := Ext.cells hb
  refine (of_any _ _ _ h0 h1 k0 k1).mono ?_
  rintro e wr ⟨rfl, hbr⟩
  obtain ⟨x, rfl⟩ := Ext.of hbr
  clear hbr
  have hlt := block_lt (x.block hb)
  go_wp2_with fail
  refine calls_box ?_
  intro W2 hB2 hb2 _
  have hb' := block_below (x.block hb) hB2
  clear hc hf
  obtain ⟨hc, hf⟩ := Ext.cells hb'
  obtain ⟨hc2, hf2⟩ := Ext.cells hb2
  refine (span_any _ _ _ _ h0 h1).mono ?_
  rintro e wr ⟨rfl, hbr⟩
  obtain ⟨y, rfl⟩ := Ext.of hbr
  clear hbr
  go_wp2_with (first | (go_at_call 11; refine (rspan_any _ _ _ _ h0 h1).mono ?_; rintro e wr ⟨rfl, hbr⟩; obtain ⟨y, rfl⟩ := Ext.step _ hbr; clear hbr))
  refine wp_region_ext _ (by kernel_rfl) (by kernel_rfl) ?_
  repeat (go_big_quiet_step (first | (go_at_call 12; refine Ext.call (late_any _)) | (go_at_call 13; refine Ext.call (far_any _))))
  refine wpQuiet_nil ?_
  rintro _ ⟨z, rfl⟩
  go_wp2_with fail
  refine wp_region_ext _ (by kernel_rfl) (by kernel_rfl) ?_
  repeat (go_big_quiet_step (first | (go_at_call 10; refine Ext.call (known18 _)) | (go_at_call 14; refine Ext.call (rof_any _ _ _ h0 h1 k0 k1)) | (go_at_call 15; refine Ext.call (right_any _ _ _)) | (go_at_call 16; refine Ext.call (touched_any _ _ _ _ _ h0 h1))))
  refine wpQuiet_nil ?_
  rintro _ ⟨z2, rfl⟩
  go_wp2_with fail
  go_ret
  exact ⟨rfl, below_then (below_then (below_then hB (Ext.ok _)) hB2) (Ext.ok _)⟩
set_option maxHeartbeats 8000000 in
set_option maxRecDepth 100000 in
theorem PlaceOf_lo (b d to l s : Int) (w : World) (h0 : 0 ≤ b) (h1 : b ≤ 18446744073709551615) (k0 : 0 ≤ d) (k1 : d ≤ 18446744073709551615) (hl : l ≠ -1) (hl0 : l < 0) (eB : spanB b l s = false) :
    Calls Try.prog 4 #[.int .u64 b, .int .u64 d, .int .u64 to, .agg #[.int .i64 l, .int .i64 s]] w fun e w' => e = .returned (.bool true) ∧ Below w.heap.size w w' := by
  have hr := of_right b d h0 h1 k0 k1
  obtain ⟨q1, q2⟩ := rof_eq b d h0 h1 k0 k1
  have eR : rightB l s = false := by simp [rightB] <;> omega
  have eT : touchB b to l s = false := by simp [touchB, eB]
  have f1 : (l == -1) = false := by simp; omega
  have f2 : (l == 8) = false := by simp; omega
  have f3 : decide (0 ≤ l) = false := by simp; omega
  go_enter Try.func4, Try.ntmps4
  go_wp2_with fail
  refine calls_box ?_
  intro W hB hb _
  obtain ⟨hc, hf⟩ := Ext.cells hb
  refine (of_any _ _ _ h0 h1 k0 k1).mono ?_
  rintro e wr ⟨rfl, hbr⟩
  obtain ⟨x, rfl⟩ := Ext.of hbr
  clear hbr
  have hlt := block_lt (x.block hb)
  go_wp2_with fail
  refine calls_box ?_
  intro W2 hB2 hb2 _
  have hb' := block_below (x.block hb) hB2
  clear hc hf
  obtain ⟨hc, hf⟩ := Ext.cells hb'
  obtain ⟨hc2, hf2⟩ := Ext.cells hb2
  refine (span_any _ _ _ _ h0 h1).mono ?_
  rintro e wr ⟨rfl, hbr⟩
  obtain ⟨y, rfl⟩ := Ext.of hbr
  clear hbr
  go_wp2_with (first | (go_at_call 11; refine (rspan_any _ _ _ _ h0 h1).mono ?_; rintro e wr ⟨rfl, hbr⟩; obtain ⟨y, rfl⟩ := Ext.step _ hbr; clear hbr))
  refine wp_region_ext _ (by kernel_rfl) (by kernel_rfl) ?_
  repeat (go_big_quiet_step (first | (go_at_call 12; refine Ext.call (late_any _)) | (go_at_call 13; refine Ext.call (far_any _))))
  refine wpQuiet_nil ?_
  rintro _ ⟨z, rfl⟩
  go_wp2_with fail
  refine wp_region_ext _ (by kernel_rfl) (by kernel_rfl) ?_
  repeat (go_big_quiet_step (first | (go_at_call 10; refine Ext.call (known18 _)) | (go_at_call 14; refine Ext.call (rof_any _ _ _ h0 h1 k0 k1)) | (go_at_call 15; refine Ext.call (right_any _ _ _)) | (go_at_call 16; refine Ext.call (touched_any _ _ _ _ _ h0 h1))))
  refine wpQuiet_nil ?_
  rintro _ ⟨z2, rfl⟩
  go_wp2_with fail
  go_ret
  exact ⟨rfl, below_then (below_then (below_then hB (Ext.ok _)) hB2) (Ext.ok _)⟩
set_option maxHeartbeats 8000000 in
set_option maxRecDepth 100000 in
theorem PlaceOf_hi (b d to l s : Int) (w : World) (h0 : 0 ≤ b) (h1 : b ≤ 18446744073709551615) (k0 : 0 ≤ d) (k1 : d ≤ 18446744073709551615) (hl0 : 8 < l) (eB : spanB b l s = false) :
    Calls Try.prog 4 #[.int .u64 b, .int .u64 d, .int .u64 to, .agg #[.int .i64 l, .int .i64 s]] w fun e w' => e = .returned (.bool true) ∧ Below w.heap.size w w' := by
  have hr := of_right b d h0 h1 k0 k1
  obtain ⟨q1, q2⟩ := rof_eq b d h0 h1 k0 k1
  have eR : rightB l s = false := by simp [rightB] <;> omega
  have eT : touchB b to l s = false := by simp [touchB, eB]
  have f1 : (l == -1) = false := by simp; omega
  have f2 : (l == 8) = false := by simp; omega
  have f3 : decide (0 ≤ l) = true := by simp; omega
  have f4 : decide (l < 8) = false := by simp; omega
  go_enter Try.func4, Try.ntmps4
  go_wp2_with fail
  refine calls_box ?_
  intro W hB hb _
  obtain ⟨hc, hf⟩ := Ext.cells hb
  refine (of_any _ _ _ h0 h1 k0 k1).mono ?_
  rintro e wr ⟨rfl, hbr⟩
  obtain ⟨x, rfl⟩ := Ext.of hbr
  clear hbr
  have hlt := block_lt (x.block hb)
  go_wp2_with fail
  refine calls_box ?_
  intro W2 hB2 hb2 _
  have hb' := block_below (x.block hb) hB2
  clear hc hf
  obtain ⟨hc, hf⟩ := Ext.cells hb'
  obtain ⟨hc2, hf2⟩ := Ext.cells hb2
  refine (span_any _ _ _ _ h0 h1).mono ?_
  rintro e wr ⟨rfl, hbr⟩
  obtain ⟨y, rfl⟩ := Ext.of hbr
  clear hbr
  go_wp2_with (first | (go_at_call 11; refine (rspan_any _ _ _ _ h0 h1).mono ?_; rintro e wr ⟨rfl, hbr⟩; obtain ⟨y, rfl⟩ := Ext.step _ hbr; clear hbr))
  refine wp_region_ext _ (by kernel_rfl) (by kernel_rfl) ?_
  repeat (go_big_quiet_step (first | (go_at_call 12; refine Ext.call (late_any _)) | (go_at_call 13; refine Ext.call (far_any _))))
  refine wpQuiet_nil ?_
  rintro _ ⟨z, rfl⟩
  go_wp2_with fail
  refine wp_region_ext _ (by kernel_rfl) (by kernel_rfl) ?_
  repeat (go_big_quiet_step (first | (go_at_call 10; refine Ext.call (known18 _)) | (go_at_call 14; refine Ext.call (rof_any _ _ _ h0 h1 k0 k1)) | (go_at_call 15; refine Ext.call (right_any _ _ _)) | (go_at_call 16; refine Ext.call (touched_any _ _ _ _ _ h0 h1))))
  refine wpQuiet_nil ?_
  rintro _ ⟨z2, rfl⟩
  go_wp2_with fail
  go_ret
  exact ⟨rfl, below_then (below_then (below_then hB (Ext.ok _)) hB2) (Ext.ok _)⟩
theorem span_not {b l s : Int} (h : rightB l s = false) : spanB b l s = false := by simp [spanB, h]
theorem PlaceOf_walk (b d to l s : Int) (w : World) (h0 : 0 ≤ b) (h1 : b ≤ 18446744073709551615) (k0 : 0 ≤ d) (k1 : d ≤ 18446744073709551615) (i0 : 0 ≤ to) (i1 : to ≤ 18446744073709551615)
    (l0 : -9223372036854775808 ≤ l) (l1 : l ≤ 9223372036854775807) (s0 : -9223372036854775808 ≤ s) (s1 : s ≤ 9223372036854775807) :
    Calls Try.prog 4 #[.int .u64 b, .int .u64 d, .int .u64 to, .agg #[.int .i64 l, .int .i64 s]] w fun e w' => e = .returned (.bool true) ∧ Below w.heap.size w w' := by
  have hcs : (l = -1 ∧ s = 0) ∨ (l = 8 ∧ s = 0) ∨ (l = -1 ∧ s ≠ 0) ∨ (l = 8 ∧ s ≠ 0) ∨ (0 ≤ l ∧ l < 8 ∧ 1 ≤ s ∧ s < 64) ∨ (0 ≤ l ∧ l < 8 ∧ s < 1) ∨ (0 ≤ l ∧ l < 8 ∧ 64 ≤ s) ∨ (l ≠ -1 ∧ l < 0) ∨ 8 < l := by omega
  rcases hcs with ⟨rfl, rfl⟩ | ⟨rfl, rfl⟩ | ⟨rfl, hs⟩ | ⟨rfl, hs⟩ | ⟨c1, c2, c3, c4⟩ | ⟨c1, c2, c3⟩ | ⟨c1, c2, c3⟩ | ⟨c1, c2⟩ | c1
  · exact PlaceOf_late b d to w h0 h1 k0 k1 (span_late' b).1
  · rcases Bool.eq_false_or_eq_true (spanB b 8 0) with e | e
    · exact PlaceOf_far_y b d to w h0 h1 k0 k1 e
    · exact PlaceOf_far_n b d to w h0 h1 k0 k1 e
  · exact PlaceOf_late_s b d to s w h0 h1 k0 k1 hs (span_not (by simp [rightB] <;> omega))
  · exact PlaceOf_far_s b d to s w h0 h1 k0 k1 hs (span_not (by simp [rightB] <;> omega))
  · rcases Bool.eq_false_or_eq_true (spanB b l s) with e | e
    · exact PlaceOf_in_y b d to l s w h0 h1 k0 k1 c1 c2 c3 c4 e
    · exact PlaceOf_in_n b d to l s w h0 h1 k0 k1 c1 c2 c3 c4 e
  · exact PlaceOf_in_lo b d to l s w h0 h1 k0 k1 c1 c2 c3 (span_not (by simp [rightB] <;> omega))
  · exact PlaceOf_in_hi b d to l s w h0 h1 k0 k1 c1 c2 c3 (span_not (by simp [rightB] <;> omega))
  · exact PlaceOf_lo b d to l s w h0 h1 k0 k1 c1 c2 (span_not (by simp [rightB] <;> omega))
  · exact PlaceOf_hi b d to l s w h0 h1 k0 k1 c1 (span_not (by simp [rightB] <;> omega))
end Go.Proofs.Ytnoafhfidecppaa
