/- Places: the chapter's examples, and the walks of the laws PlaceOrder, PlaceOf, PlaceSpans. -/
import Derived.Test.YtnoafhfidecppaaPlaceP
namespace Go.Proofs.Ytnoafhfidecppaa
open Go.RowKit
set_option linter.unusedVariables false
set_option linter.unusedSimpArgs false

set_option maxHeartbeats 8000000 in
theorem less_order (b c d : Int) (h0 : 0 ≤ b) (h1 : b ≤ 18446744073709551615) (i0 : 0 ≤ c) (i1 : c ≤ 18446744073709551615) (k0 : 0 ≤ d) (k1 : d ≤ 18446744073709551615)
    (hne : ¬ (ofL b c = ofL b d ∧ ofS b c = ofS b d)) : lessB (ofL b c) (ofS b c) (ofL b d) (ofS b d) = decide (c < d) := by
  rw [less_key, decide_eq_decide]
  obtain ⟨b1, b2, b3, b4, b5, b6, b7, b8, ⟨eb1, eb2, eb3, eb4, eb5, eb6, eb7, eb8⟩, ⟨lb1, ub1⟩, ⟨lb2, ub2⟩, ⟨lb3, ub3⟩, ⟨lb4, ub4⟩, ⟨lb5, ub5⟩, ⟨lb6, ub6⟩, ⟨lb7, ub7⟩, ⟨lb8, ub8⟩, zb, tb⟩ := chain b h0 h1
  obtain ⟨c1, c2, c3, c4, c5, c6, c7, c8, ⟨ec1, ec2, ec3, ec4, ec5, ec6, ec7, ec8⟩, ⟨lc1, uc1⟩, ⟨lc2, uc2⟩, ⟨lc3, uc3⟩, ⟨lc4, uc4⟩, ⟨lc5, uc5⟩, ⟨lc6, uc6⟩, ⟨lc7, uc7⟩, ⟨lc8, uc8⟩, zc, tc⟩ := chain c i0 i1
  obtain ⟨d1, d2, d3, d4, d5, d6, d7, d8, ⟨ed1, ed2, ed3, ed4, ed5, ed6, ed7, ed8⟩, ⟨ld1, ud1⟩, ⟨ld2, ud2⟩, ⟨ld3, ud3⟩, ⟨ld4, ud4⟩, ⟨ld5, ud5⟩, ⟨ld6, ud6⟩, ⟨ld7, ud7⟩, ⟨ld8, ud8⟩, zd, td⟩ := chain d k0 k1
  rcases of_cases b c h0 h1 i0 i1 with ⟨p1, p2, p3⟩ | ⟨p0, p1, p2, p3⟩ | ⟨p0, p1, p2, p3⟩ | ⟨p0, p1, p2, p3⟩ | ⟨p0, p1, p2, p3⟩ | ⟨p0, p1, p2, p3⟩ | ⟨p0, p1, p2, p3⟩ | ⟨p0, p1, p2, p3⟩ | ⟨p0, p1, p2, p3⟩ | ⟨p1, p2, p3⟩
  all_goals
    rcases of_cases b d h0 h1 k0 k1 with ⟨q1, q2, q3⟩ | ⟨q0, q1, q2, q3⟩ | ⟨q0, q1, q2, q3⟩ | ⟨q0, q1, q2, q3⟩ | ⟨q0, q1, q2, q3⟩ | ⟨q0, q1, q2, q3⟩ | ⟨q0, q1, q2, q3⟩ | ⟨q0, q1, q2, q3⟩ | ⟨q0, q1, q2, q3⟩ | ⟨q1, q2, q3⟩
    all_goals
      rw [p2, p3, q2, q3] at hne ⊢
      clear p2 p3 q2 q3
      simp only [eb1, eb2, eb3, eb4, eb5, eb6, eb7, eb8, ec1, ec2, ec3, ec4, ec5, ec6, ec7, ec8, ed1, ed2, ed3, ed4, ed5, ed6, ed7, ed8, ne_eq, not_true_eq_false, and_self, true_and, and_true, false_and, false_or, or_false] at * <;> omega
set_option maxHeartbeats 2000000 in
set_option maxRecDepth 100000 in
theorem known18 (w : World) : Calls Try.prog 10 #[] w fun e w' => e = .returned (.bool true) ∧ Below w.heap.size w w' := by
  have f0 : ofL 0 0 = -1 := by decide
  have g0 : ofS 0 0 = 0 := by decide
  have f1 : ofL 0 63 = 0 := by decide
  have g1 : ofS 0 63 = 63 := by decide
  have f2 : ofL 0 64 = 1 := by decide
  have g2 : ofS 0 64 = 1 := by decide
  have f3 : ofL 70 64 = -1 := by decide
  have g3 : ofS 70 64 = 0 := by decide
  have f4 : ofL 0 281474976710656 = 8 := by decide
  have g4 : ofS 0 281474976710656 = 0 := by decide
  have s1 : spanF 0 1 1 = 64 := by decide
  have s2 : spanT 0 1 1 = 127 := by decide
  have s3 : spanB 0 1 1 = true := by decide
  go_enter Try.func10, Try.ntmps10
  refine wp_start ?_
  intro x
  go_wp2_with fail
  refine (span_any _ _ _ _ (by omega) (by omega)).mono ?_
  rintro e wr ⟨rfl, hbr⟩
  obtain ⟨y, rfl⟩ := x.step hbr
  clear hbr
  go_wp2_with (first | (go_at_call 8; refine (of_any _ _ _ (by omega) (by omega) (by omega) (by omega)).mono ?_; rintro e wr ⟨rfl, hbr⟩; obtain ⟨y, rfl⟩ := Ext.step _ hbr; clear hbr) | (go_at_call 12; refine (late_any _).mono ?_; rintro e wr ⟨rfl, hbr⟩; obtain ⟨y, rfl⟩ := Ext.step _ hbr; clear hbr) | (go_at_call 13; refine (far_any _).mono ?_; rintro e wr ⟨rfl, hbr⟩; obtain ⟨y, rfl⟩ := Ext.step _ hbr; clear hbr))
  go_ret
  exact ⟨rfl, Ext.ok _⟩
set_option maxHeartbeats 2000000 in
set_option maxRecDepth 100000 in
theorem PlaceOrder_walk (b c d : Int) (w : World) (h0 : 0 ≤ b) (h1 : b ≤ 18446744073709551615) (i0 : 0 ≤ c) (i1 : c ≤ 18446744073709551615) (k0 : 0 ≤ d) (k1 : d ≤ 18446744073709551615) :
    Calls Try.prog 5 #[.int .u64 b, .int .u64 c, .int .u64 d] w fun e w' => e = .returned (.bool true) ∧ Below w.heap.size w w' := by
  have hcs : (ofL b d = ofL b c ∧ ofS b d = ofS b c) ∨ (ofL b c ≠ ofL b d) ∨ (ofL b d = ofL b c ∧ ofS b c ≠ ofS b d) := by omega
  rcases hcs with ⟨e1, e2⟩ | hne | ⟨e1, hne⟩
  · have l1 : lessB (ofL b c) (ofS b c) (ofL b c) (ofS b c) = false := by simp [lessB]
    go_enter Try.func5, Try.ntmps5
    refine wp_start ?_
    intro x
    go_wp2_with (first | (go_at_call 8; refine (of_any _ _ _ (by omega) (by omega) (by omega) (by omega)).mono ?_; rintro e wr ⟨rfl, hbr⟩; obtain ⟨y, rfl⟩ := Ext.step _ hbr; clear hbr))
    refine calls_box2 ?_
    intro W hB hb1 hb2 _
    obtain ⟨hc1, hf1⟩ := Ext.cells hb1
    obtain ⟨hc2, hf2⟩ := Ext.cells hb2
    refine (known18 _).mono ?_
    rintro e wr ⟨rfl, hbr⟩
    obtain ⟨y, rfl⟩ := Ext.of hbr
    go_wp2_with (first | (go_at_call 17; refine (less_any _ _ _ _ _).mono ?_; rintro e wr ⟨rfl, hbr⟩; obtain ⟨y, rfl⟩ := Ext.step _ hbr; clear hbr))
    go_ret
    exact ⟨rfl, below_then (below_then (Ext.ok _) hB) (Ext.ok _)⟩
  · have hn1 : ¬ (ofL b c = ofL b d ∧ ofS b c = ofS b d) := fun h => hne h.1
    have hn2 : ¬ (ofL b d = ofL b c ∧ ofS b d = ofS b c) := fun h => hne h.1.symm
    have l1 := less_order b c d h0 h1 i0 i1 k0 k1 hn1
    have l2 := less_order b d c h0 h1 k0 k1 i0 i1 hn2
    have g1 : (ofL b c == ofL b d) = false := by simpa using hne
    clear hn1 hn2 hne
    go_enter Try.func5, Try.ntmps5
    refine wp_start ?_
    intro x
    go_wp2_with (first | (go_at_call 8; refine (of_any _ _ _ (by omega) (by omega) (by omega) (by omega)).mono ?_; rintro e wr ⟨rfl, hbr⟩; obtain ⟨y, rfl⟩ := Ext.step _ hbr; clear hbr))
    refine calls_box2 ?_
    intro W hB hb1 hb2 _
    obtain ⟨hc1, hf1⟩ := Ext.cells hb1
    obtain ⟨hc2, hf2⟩ := Ext.cells hb2
    refine (known18 _).mono ?_
    rintro e wr ⟨rfl, hbr⟩
    obtain ⟨y, rfl⟩ := Ext.of hbr
    go_wp2_with (first | (go_at_call 17; refine (less_any _ _ _ _ _).mono ?_; rintro e wr ⟨rfl, hbr⟩; obtain ⟨y, rfl⟩ := Ext.step _ hbr; clear hbr))
    go_ret
    exact ⟨rfl, below_then (below_then (Ext.ok _) hB) (Ext.ok _)⟩
  · have hn1 : ¬ (ofL b c = ofL b d ∧ ofS b c = ofS b d) := fun h => hne h.2
    have hn2 : ¬ (ofL b d = ofL b c ∧ ofS b d = ofS b c) := fun h => hne h.2.symm
    have l1 := less_order b c d h0 h1 i0 i1 k0 k1 hn1
    have l2 := less_order b d c h0 h1 k0 k1 i0 i1 hn2
    have g1 : (ofS b c == ofS b d) = false := by simpa using hne
    rw [e1] at l1 l2
    clear hn1 hn2 hne
    go_enter Try.func5, Try.ntmps5
    refine wp_start ?_
    intro x
    go_wp2_with (first | (go_at_call 8; refine (of_any _ _ _ (by omega) (by omega) (by omega) (by omega)).mono ?_; rintro e wr ⟨rfl, hbr⟩; obtain ⟨y, rfl⟩ := Ext.step _ hbr; clear hbr))
    refine calls_box2 ?_
    intro W hB hb1 hb2 _
    obtain ⟨hc1, hf1⟩ := Ext.cells hb1
    obtain ⟨hc2, hf2⟩ := Ext.cells hb2
    refine (known18 _).mono ?_
    rintro e wr ⟨rfl, hbr⟩
    obtain ⟨y, rfl⟩ := Ext.of hbr
    go_wp2_with (first | (go_at_call 17; refine (less_any _ _ _ _ _).mono ?_; rintro e wr ⟨rfl, hbr⟩; obtain ⟨y, rfl⟩ := Ext.step _ hbr; clear hbr))
    go_ret
    exact ⟨rfl, below_then (below_then (Ext.ok _) hB) (Ext.ok _)⟩
end Go.Proofs.Ytnoafhfidecppaa
