/- The chapter's example of layer 15; from slot to slot by Next. -/
import Derived.Test.YtnoafhfidecppaaDoorOccE
import Derived.Test.YtnoafhfidecppaaDoorArgs
namespace Go.Proofs.YtnoafhfidecppaaDoor
open Go.RowKit Go.Shelf
set_option linter.unusedVariables false
set_option linter.unusedSimpArgs false
def mk8 (l : List Int) (h : l.length = 8) (hr : ∀ x ∈ l, 0 ≤ x ∧ x ≤ 18446744073709551615) : Map8 where
  ws := l
  len := h
  lo := fun i => by
    rw [List.getD_eq_getElem?_getD]
    rcases Nat.lt_or_ge i l.length with h | h
    · rw [List.getElem?_eq_getElem h]; exact (hr _ (List.getElem_mem h)).1
    · rw [List.getElem?_eq_none h]; simp
  hi := fun i => by
    rw [List.getD_eq_getElem?_getD]
    rcases Nat.lt_or_ge i l.length with h | h
    · rw [List.getElem?_eq_getElem h]; exact (hr _ (List.getElem_mem h)).2
    · rw [List.getElem?_eq_none h]; simp
def k0 : Map8 := mk8 [0, 0, 0, 0, 0, 0, 0, 0] rfl (by decide)
def k1 : Map8 := mk8 [0, 0, 32, 0, 0, 0, 0, 0] rfl (by decide)
def k2 : Map8 := mk8 [0, 9223372036854775808, 32, 0, 0, 0, 0, 0] rfl (by decide)
theorem k_set1 (w : World) : Calls Tryd.prog 42 #[.agg #[.int .u64 0, .int .u64 0, .int .u64 0, .int .u64 0, .int .u64 0, .int .u64 0, .int .u64 0, .int .u64 0], .int .i64 2, .int .i64 5] w fun e w' => e = .returned (.agg #[.int .u64 0, .int .u64 0, .int .u64 32, .int .u64 0, .int .u64 0, .int .u64 0, .int .u64 0, .int .u64 0]) ∧ Below w.heap.size w w' := by
  have h := set_any k0 2 5 w
  have e : (setM k0 2 5).val = k1.val := by kernel_rfl
  rw [e] at h
  exact h
theorem k_set2 (w : World) : Calls Tryd.prog 42 #[.agg #[.int .u64 0, .int .u64 0, .int .u64 32, .int .u64 0, .int .u64 0, .int .u64 0, .int .u64 0, .int .u64 0], .int .i64 1, .int .i64 63] w fun e w' => e = .returned (.agg #[.int .u64 0, .int .u64 9223372036854775808, .int .u64 32, .int .u64 0, .int .u64 0, .int .u64 0, .int .u64 0, .int .u64 0]) ∧ Below w.heap.size w w' := by
  have h := set_any k1 1 63 w
  have e : (setM k1 1 63).val = k2.val := by kernel_rfl
  rw [e] at h
  exact h
theorem k_lowest (w : World) (hT : Tab w) : Calls Tryd.prog 50 #[.agg #[.int .u64 0, .int .u64 9223372036854775808, .int .u64 32, .int .u64 0, .int .u64 0, .int .u64 0, .int .u64 0, .int .u64 0]] w fun e w' => e = .returned (.tuple #[.int .i64 1, .int .i64 63]) ∧ Below w.heap.size w w' := by
  have h := lowest_any k2 w hT
  have e : lowI k2 = (1, 63) := by kernel_rfl
  rw [e] at h
  exact h
theorem k_count (w : World) (hT : Tab w) : Calls Tryd.prog 51 #[.agg #[.int .u64 0, .int .u64 9223372036854775808, .int .u64 32, .int .u64 0, .int .u64 0, .int .u64 0, .int .u64 0, .int .u64 0]] w fun e w' => e = .returned (.int .i64 2) ∧ Below w.heap.size w w' := by
  have h := count_any k2 w hT
  have e : (allI k2).length = 2 := by kernel_rfl
  rw [e] at h
  exact h
theorem k_next (w : World) (hT : Tab w) : Calls Tryd.prog 38 #[.agg #[.int .u64 0, .int .u64 9223372036854775808, .int .u64 32, .int .u64 0, .int .u64 0, .int .u64 0, .int .u64 0, .int .u64 0], .int .i64 2, .int .i64 6] w fun e w' => e = .returned (.int .i64 (-1)) ∧ Below w.heap.size w w' := by
  have h := next_any k2 2 6 w hT
  have e : nextI k2 2 6 = -1 := by kernel_rfl
  rw [e] at h
  exact h
theorem Tab.ofExt {w : World} (hT : Tab w) {W : World} (h : Below w.heap.size w W) : Tab W := hT.ext h
set_option maxHeartbeats 4000000 in
set_option maxRecDepth 100000 in
theorem known15 (w : World) (hT : Tab w) : Calls Tryd.prog 40 #[] w fun e w' => e = .returned (.bool true) ∧ Below w.heap.size w w' := by
  have HT := Lib.hid hT
  clear hT
  go_enter Tryd.func40, Tryd.ntmps40
  go_wp2_with fail
  refine (k_set1 _).mono ?_
  rintro e w1 ⟨rfl, hb1⟩
  go_wp2_with fail
  refine (k_set2 _).mono ?_
  rintro e w2 ⟨rfl, hb2⟩
  have hB := Lib.hid (below_then hb1 hb2)
  clear hb1 hb2
  go_wp2_with fail
  refine calls_box ?_
  intro W hB2 hb _
  have HB := Lib.hid (below_then hB.out hB2)
  have HW := Lib.hid (HT.out.ext HB.out)
  clear hB hB2 HT
  obtain ⟨hk, hf⟩ := Ext.cells hb
  refine (k_lowest _ HW.out).mono ?_
  rintro e wr ⟨rfl, hbr⟩
  obtain ⟨y, rfl⟩ := Ext.of hbr
  clear hbr
  go_wp2_with (first | (go_at_call 51; refine (k_count _ (HW.out.ext (Ext.ok _))).mono ?_; rintro e wr ⟨rfl, hbr⟩; obtain ⟨y, rfl⟩ := Ext.step _ hbr; clear hbr) | (go_at_call 38; refine (k_next _ (HW.out.ext (Ext.ok _))).mono ?_; rintro e wr ⟨rfl, hbr⟩; obtain ⟨y, rfl⟩ := Ext.step _ hbr; clear hbr))
  go_ret
  exact ⟨rfl, below_then HB.out (Ext.ok _)⟩
def hd : List Nat → Int
  | [] => -1
  | x :: _ => (x : Int)
theorem row_step (n : Int) (s : Nat) (h : s < 64) : rowI n s = if bitI n s = true then s :: rowI n (s + 1) else rowI n (s + 1) := by
  unfold rowI
  rw [show 64 - s = (64 - (s + 1)) + 1 by omega, slots]
theorem row_end (n : Int) : rowI n 64 = [] := rfl
theorem next_of (m : Map8) (l a : Int) (h0 : 0 ≤ l) (h1 : l < 8) (ha : -1 ≤ a) (s : Nat) (hr : rowI (m.at l) (a + 1).toNat = rowI (m.at l) s) : nextI m l (a + 1) = hd (rowI (m.at l) s) := by
  have e := row_first (m.at l) (a + 1).toNat
  rw [hr, show (((a + 1).toNat : Nat) : Int) = a + 1 by omega] at e
  rw [nextI, if_pos ⟨h0, h1⟩, e]
  cases rowI (m.at l) s <;> rfl
theorem has_of (m : Map8) (l : Int) (s : Nat) (h0 : 0 ≤ l) (h1 : l < 8) (hs : s < 64) : hasI m l s = bitI (m.at l) s := by
  rw [hasI, decide_eq_true (show okS l s from ⟨h0, h1, by omega, by omega⟩)]; rfl
theorem has_arr (m : Map8) (l s : Int) (w : World) :
    Calls Tryd.prog 39 #[.agg #[.int .u64 (m.at 0), .int .u64 (m.at 1), .int .u64 (m.at 2), .int .u64 (m.at 3), .int .u64 (m.at 4), .int .u64 (m.at 5), .int .u64 (m.at 6), .int .u64 (m.at 7)], .int .i64 l, .int .i64 s] w fun e w' => e = .returned (.bool (hasI m l s)) ∧ Below w.heap.size w w' := by
  have h := has_any m l s w
  unfold Map8.val at h
  rw [m.arr_eq] at h
  exact h
set_option maxHeartbeats 4000000 in
set_option maxRecDepth 100000 in
theorem OccGoes_m (m : Map8) (l : Int) (W : World) (hT : Tab W) (l0 : -9223372036854775808 ≤ l) (l1 : l ≤ 9223372036854775807) :
    Calls Tryd.prog 7 #[m.val, .int .i64 l] W fun e w' => e = .returned (.bool true) ∧ Below W.heap.size W w' := by
  obtain ⟨u, hu, u0, u1⟩ : ∃ u, IntKind.u64.wrap l = u ∧ 0 ≤ u ∧ u ≤ 18446744073709551615 := ⟨_, rfl, by rw [IntKind.wrap_u64]; omega, by rw [IntKind.wrap_u64]; omega⟩
  unfold Map8.val
  rw [m.arr_eq]
  go_enter Tryd.func7, Tryd.ntmps7
  go_wp2_with fail
  obtain ⟨L, hL, L0, L1⟩ : ∃ L, u % 8 = L ∧ 0 ≤ L ∧ L < 8 := ⟨_, rfl, by omega, by omega⟩
  rw [hL]
  clear hL hu u0 u1
  refine wp_box ?_
  intro W1 hB hb _
  have HB := Lib.hid hB
  have HT := Lib.hid (hT.ext hB)
  clear hB hT
  obtain ⟨hk, hf⟩ := Ext.cells hb
  go_loopw [5, 6] (fun t i wr => ∃ (s : Nat) (a : Int) (x : Ext W1.heap.size W1), s ≤ 64 ∧ -1 ≤ a ∧ a < s ∧ rowI (m.at L) (a + 1).toNat = rowI (m.at L) s ∧ t = .int .i64 a ∧ i = .int .i64 s ∧ wr = x.world) (fun _ i _ => 64 - (intOf i).toNat)
  case atStart => exact ⟨0, -1, ⟨W1, Below.refl _ _⟩, by omega, by omega, by omega, rfl, rfl, rfl, rfl⟩
  case round =>
    obtain ⟨s, a, x, hs, ha, has, hr, rfl, rfl, rfl⟩ := hrel
    have hn := next_of m L a L0 L1 ha s hr
    by_cases hlt : s < 64
    · have hh := has_of m L s L0 L1 hlt
      have hst := row_step (m.at L) s hlt
      have hcond : (decide (hd (rowI (m.at L) s) < s) = true ∧ decide (0 ≤ hd (rowI (m.at L) s)) = false) ∨ decide (hd (rowI (m.at L) s) < s) = false := by
        cases hq : rowI (m.at L) s with
        | nil => exact .inl ⟨decide_eq_true (show (-1 : Int) < s by omega), decide_eq_false (show ¬ (0 : Int) ≤ -1 by omega)⟩
        | cons y r => exact .inr (by have := (row_cons hq).1; exact decide_eq_false (show ¬ (y : Int) < s by omega))
      rcases Bool.eq_false_or_eq_true (bitI (m.at L) s) with hbit | hbit
      · rw [if_pos hbit] at hst
        have hy : hd (rowI (m.at L) s) = s := by rw [hst]; rfl
        have hst2 : rowI (m.at L) ((s : Int) + 1).toNat = rowI (m.at L) (s + 1) := by congr 1
        have HS := Lib.hid hst2
        rw [hbit] at hh
        rw [hy] at hn
        clear hcond hst hst2 hbit hy hr
        go_wp2_with (first | (go_at_call 38; refine (next_arr m _ _ _ (HT.out.ext (Ext.ok _))).mono ?_; rintro e wr ⟨rfl, hbr⟩; obtain ⟨y, rfl⟩ := Ext.step _ hbr; clear hbr) | (go_at_call 39; refine (has_arr m _ _ _).mono ?_; rintro e wr ⟨rfl, hbr⟩; obtain ⟨y, rfl⟩ := Ext.step _ hbr; clear hbr))
        go_roundw
        case rel => exact ⟨s + 1, s, _, by omega, by omega, by omega, HS.out, rfl, by go_num, rfl⟩
        case measure => simp [intOf]; omega
      · rw [if_neg (by rw [hbit]; simp)] at hst
        rw [hbit] at hh
        rw [hst] at hr
        have HR := Lib.hid hr
        obtain ⟨N, hN⟩ : ∃ N, hd (rowI (m.at L) s) = N := ⟨_, rfl⟩
        rw [hN] at hn hcond
        clear hst hbit hr hN
        rcases hcond with ⟨d1, d2⟩ | d1
        all_goals
          go_wp2_with (first | (go_at_call 38; refine (next_arr m _ _ _ (HT.out.ext (Ext.ok _))).mono ?_; rintro e wr ⟨rfl, hbr⟩; obtain ⟨y, rfl⟩ := Ext.step _ hbr; clear hbr) | (go_at_call 39; refine (has_arr m _ _ _).mono ?_; rintro e wr ⟨rfl, hbr⟩; obtain ⟨y, rfl⟩ := Ext.step _ hbr; clear hbr))
          go_roundw
          case rel => exact ⟨s + 1, a, _, by omega, by omega, by omega, HR.out, rfl, by go_num, rfl⟩
          case measure => simp [intOf]; omega
    · obtain rfl : s = 64 := by omega
      have hy : hd (rowI (m.at L) 64) = -1 := rfl
      rw [hy] at hn
      clear hy hr
      go_wp2_with (first | (go_at_call 38; refine (next_arr m _ _ _ (HT.out.ext (Ext.ok _))).mono ?_; rintro e wr ⟨rfl, hbr⟩; obtain ⟨y, rfl⟩ := Ext.step _ hbr; clear hbr) | (go_at_call 40; refine (known15 _ (HT.out.ext (Ext.ok _))).mono ?_; rintro e wr ⟨rfl, hbr⟩; obtain ⟨y, rfl⟩ := Ext.step _ hbr; clear hbr))
      go_ret
      exact ⟨rfl, below_then HB.out (Ext.ok _)⟩
theorem map8_of_fits {W : World} {cs : Array Value} (h : Fits W [.int .u64, .int .u64, .int .u64, .int .u64, .int .u64, .int .u64, .int .u64, .int .u64] cs.toList) : ∃ m : Map8, cs = m.arr := by
  obtain ⟨zs, hz, hl, hr⟩ := fits_ints (n := 8) (k := .u64) h
  refine ⟨mk8 zs hl (fun x hx => bounds_u64 (hr x hx)), ?_⟩
  rw [← Array.toArray_toList (xs := cs), hz]
  rfl
theorem OccGoes_walk (cs : Array Value) (l : Int) (W : World) (hT : Tab W) (f : Fits W [.int .u64, .int .u64, .int .u64, .int .u64, .int .u64, .int .u64, .int .u64, .int .u64] cs.toList) (l0 : -9223372036854775808 ≤ l) (l1 : l ≤ 9223372036854775807) :
    Calls Tryd.prog 7 #[.agg cs, .int .i64 l] W fun e w' => e = .returned (.bool true) ∧ Below W.heap.size W w' := by
  obtain ⟨m, rfl⟩ := map8_of_fits f
  exact OccGoes_m m l W hT l0 l1
end Go.Proofs.YtnoafhfidecppaaDoor
