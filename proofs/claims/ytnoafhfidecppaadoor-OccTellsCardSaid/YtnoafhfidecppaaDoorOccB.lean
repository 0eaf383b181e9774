/- The table of slots: Has, Set, Drop. -/
import Derived.Test.YtnoafhfidecppaaDoorOccA
import Derived.Laws.BitsAllLaws
namespace Go.Proofs.YtnoafhfidecppaaDoor
open Go.RowKit
set_option linter.unusedVariables false
set_option linter.unusedSimpArgs false

theorem bitO_range (l s : Int) : 0 ≤ bitO l s ∧ bitO l s ≤ 18446744073709551615 := by
  rw [bitO]
  split
  · have := pow_u64 s.toNat (by have := ‹okS l s›.2.2.2; omega)
    omega
  · decide
theorem bitO_out {l s : Int} (h : ¬ okS l s) : (bitO l s != 0) = false := by rw [bitO, if_neg h]; rfl
theorem bitO_in {l s : Int} (h : okS l s) : (bitO l s != 0) = true := by
  have := pow_u64 s.toNat (by have := h.2.2.2; omega)
  rw [bitO, if_pos h]
  simp; omega
theorem and_bit (a : Int) (j : Nat) (hj : j < 64) (h0 : 0 ≤ a) (h1 : a ≤ 18446744073709551615) : (bits .and .u64 a (2 ^ j) != 0) = bitI a j := by
  have hp := pow_u64 j hj
  rw [u64_and a _ h0 (by omega) (by omega) (by omega), bitI_toNat h0]
  have e : ((2 : Int) ^ j).toNat = 2 ^ j := by
    have : ((2 ^ j : Nat) : Int) = 2 ^ j := by simp
    omega
  rw [e]
  rw [Bool.eq_iff_iff]
  constructor
  · intro h
    apply Classical.byContradiction
    intro hb
    have hz : a.toNat &&& 2 ^ j = 0 := by
      apply Nat.eq_of_testBit_eq
      intro i
      rw [Nat.testBit_and, Nat.testBit_two_pow, Nat.zero_testBit]
      by_cases hi : j = i
      · subst hi; simp at hb; simp [hb]
      · simp [hi]
    rw [hz] at h
    simp at h
  · intro h
    have hz : (a.toNat &&& 2 ^ j).testBit j = true := by rw [Nat.testBit_and, Nat.testBit_two_pow, h]; simp
    have : a.toNat &&& 2 ^ j ≠ 0 := fun h0 => by rw [h0] at hz; simp at hz
    simp only [bne_iff_ne, ne_eq]
    omega
def hasI (m : Map8) (l s : Int) : Bool := decide (okS l s) && bitI (m.at l) s.toNat
set_option maxHeartbeats 4000000 in
set_option maxRecDepth 100000 in
theorem has_any (m : Map8) (l s : Int) (w : World) :
    Calls Tryd.prog 39 #[m.val, .int .i64 l, .int .i64 s] w fun e w' => e = .returned (.bool (hasI m l s)) ∧ Below w.heap.size w w' := by
  by_cases h : okS l s
  · have g := bitO_in h
    obtain ⟨h0, h1, h2, h3⟩ := h
    obtain ⟨r0, r1⟩ := m.at_range l
    have e1 : (bits .and .u64 (m.at l) (bitO l s) != 0) = hasI m l s := by
      rw [bitO, if_pos ⟨h0, h1, h2, h3⟩, and_bit _ _ (by omega) r0 r1, hasI, decide_eq_true (show okS l s from ⟨h0, h1, h2, h3⟩)]; rfl
    have E1 := Lib.hid e1
    clear e1
    have hc := m.cell l h0 h1
    have hlen := m.size
    unfold Map8.val
    go_enter Tryd.func39, Tryd.ntmps39
    go_wp2_with fail
    refine calls_box ?_
    intro W hB hb1 _
    obtain ⟨hk0, hf1⟩ := Ext.cells hb1
    have hk1 : ∀ x : Ext W.heap.size W, x.world.cell? ⟨w.heap.size, l.toNat, none⟩ = some (.int .u64 (m.at l)) := fun x => (hk0 x _).trans hc
    clear hk0 hc
    refine (bit_any _ _ _).mono ?_
    rintro e wr ⟨rfl, hbr⟩
    obtain ⟨y, rfl⟩ := Ext.of hbr
    go_wp2_with fail
    go_ret
    exact ⟨ret_bool E1.out, below_then hB (Ext.ok _)⟩
  · have g := bitO_out h
    have e1 : false = hasI m l s := by rw [hasI, decide_eq_false h]; rfl
    have E1 := Lib.hid e1
    clear e1 h
    unfold Map8.val
    go_enter Tryd.func39, Tryd.ntmps39
    go_wp2_with fail
    refine calls_box ?_
    intro W hB hb1 _
    refine (bit_any _ _ _).mono ?_
    rintro e wr ⟨rfl, hbr⟩
    obtain ⟨y, rfl⟩ := Ext.of hbr
    go_wp2_with fail
    go_ret
    exact ⟨ret_bool E1.out, below_then hB (Ext.ok _)⟩
def Map8.put (m : Map8) (l v : Int) (h0 : 0 ≤ v) (h1 : v ≤ 18446744073709551615) : Map8 where
  ws := m.ws.set l.toNat v
  len := by rw [List.length_set]; exact m.len
  lo := fun i => by
    rw [List.getD_eq_getElem?_getD, List.getElem?_set]
    split
    · split <;> simp [h0]
    · have := m.lo i
      rwa [List.getD_eq_getElem?_getD] at this
  hi := fun i => by
    rw [List.getD_eq_getElem?_getD, List.getElem?_set]
    split
    · split <;> simp [h1]
    · have := m.hi i
      rwa [List.getD_eq_getElem?_getD] at this
theorem Map8.at_put (m : Map8) (l v : Int) (h0 : 0 ≤ v) (h1 : v ≤ 18446744073709551615) (i : Int) (hl : 0 ≤ l) (hl2 : l < 8) (hi : 0 ≤ i) : (m.put l v h0 h1).at i = if i = l then v else m.at i := by
  have := m.len
  unfold Map8.at Map8.put
  simp only [List.getD_eq_getElem?_getD, List.getElem?_set]
  by_cases h : i = l
  · subst h
    rw [if_pos rfl, if_pos (by omega), if_pos rfl]; rfl
  · rw [if_neg (by omega), if_neg h]
theorem Map8.arr_eq (m : Map8) : m.arr = #[.int .u64 (m.at 0), .int .u64 (m.at 1), .int .u64 (m.at 2), .int .u64 (m.at 3), .int .u64 (m.at 4), .int .u64 (m.at 5), .int .u64 (m.at 6), .int .u64 (m.at 7)] := by
  have := m.len
  apply Array.ext
  · simp [m.size]
  · intro i h1 h2
    have h3 : i < 8 := by rw [m.size] at h1; exact h1
    have hc := m.cell i (by omega) (by omega)
    rw [show (i : Int).toNat = i by omega, Array.getElem?_eq_getElem h1] at hc
    rw [Option.some.inj hc]
    have hi : i = 0 ∨ i = 1 ∨ i = 2 ∨ i = 3 ∨ i = 4 ∨ i = 5 ∨ i = 6 ∨ i = 7 := by omega
    rcases hi with rfl | rfl | rfl | rfl | rfl | rfl | rfl | rfl <;> rfl
theorem or_range (a b : Int) (h0 : 0 ≤ a) (h1 : a ≤ 18446744073709551615) (k0 : 0 ≤ b) (k1 : b ≤ 18446744073709551615) : 0 ≤ bits .or .u64 a b ∧ bits .or .u64 a b ≤ 18446744073709551615 := by
  rw [u64_or a b h0 (by omega) k0 (by omega)]
  have := Nat.or_lt_two_pow (n := 64) (show a.toNat < 2 ^ 64 by omega) (show b.toNat < 2 ^ 64 by omega)
  omega
theorem andNot_range (a b : Int) (h0 : 0 ≤ a) (h1 : a ≤ 18446744073709551615) (k0 : 0 ≤ b) (k1 : b ≤ 18446744073709551615) : 0 ≤ bits .andNot .u64 a b ∧ bits .andNot .u64 a b ≤ 18446744073709551615 := by
  rw [u64_andNot a b h0 (by omega) k0 (by omega)]
  have := Nat.and_lt_two_pow (n := 64) a.toNat (show 18446744073709551615 - b.toNat < 2 ^ 64 by omega)
  omega
def setI (m : Map8) (l s : Int) : Map8 := m.put l (bits .or .u64 (m.at l) (bitO l s)) (or_range _ _ (m.at_range l).1 (m.at_range l).2 (bitO_range l s).1 (bitO_range l s).2).1 (or_range _ _ (m.at_range l).1 (m.at_range l).2 (bitO_range l s).1 (bitO_range l s).2).2
set_option maxHeartbeats 4000000 in
set_option maxRecDepth 100000 in
theorem set_at0 (m : Map8) (s : Int) (w : World) (h : okS 0 s) :
    Calls Tryd.prog 42 #[m.val, .int .i64 0, .int .i64 s] w fun e w' => e = .returned (setI m 0 s).val ∧ Below w.heap.size w w' := by
  have g := bitO_in h
  have e1 : #[.int .u64 (bits .or .u64 (m.at 0) (bitO 0 s)), .int .u64 (m.at 1), .int .u64 (m.at 2), .int .u64 (m.at 3), .int .u64 (m.at 4), .int .u64 (m.at 5), .int .u64 (m.at 6), .int .u64 (m.at 7)] = (setI m 0 s).arr := by
    rw [(setI m 0 s).arr_eq]
    unfold setI
    simp [Map8.at_put]
  have E1 := Lib.hid e1
  clear e1 h
  unfold Map8.val
  rw [m.arr_eq]
  go_enter Tryd.func42, Tryd.ntmps42
  go_wp2_with fail
  refine calls_box2 ?_
  intro W hB hb1 hb2 _
  obtain ⟨hk1, hf1⟩ := Ext.cells hb1
  obtain ⟨hk2, hf2⟩ := Ext.cells hb2
  refine (bit_any _ _ _).mono ?_
  rintro e wr ⟨rfl, hbr⟩
  obtain ⟨y, rfl⟩ := Ext.of hbr
  go_wp2_with fail
  rw [← E1.out]
  refine bodyPost_ret (v := .agg #[.int .u64 (bits .or .u64 (m.at 0) (bitO 0 s)), .int .u64 (m.at 1), .int .u64 (m.at 2), .int .u64 (m.at 3), .int .u64 (m.at 4), .int .u64 (m.at 5), .int .u64 (m.at 6), .int .u64 (m.at 7)]) (by simp [results, Tryd.results42, go_sem, hk1, hk2]) rfl ⟨rfl, ?_⟩
  iterate 9 refine below_set ?_ (by simp) _
  exact below_then hB y.ok
set_option maxHeartbeats 4000000 in
set_option maxRecDepth 100000 in
theorem set_at1 (m : Map8) (s : Int) (w : World) (h : okS 1 s) :
    Calls Tryd.prog 42 #[m.val, .int .i64 1, .int .i64 s] w fun e w' => e = .returned (setI m 1 s).val ∧ Below w.heap.size w w' := by
  have g := bitO_in h
  have e1 : #[.int .u64 (m.at 0), .int .u64 (bits .or .u64 (m.at 1) (bitO 1 s)), .int .u64 (m.at 2), .int .u64 (m.at 3), .int .u64 (m.at 4), .int .u64 (m.at 5), .int .u64 (m.at 6), .int .u64 (m.at 7)] = (setI m 1 s).arr := by
    rw [(setI m 1 s).arr_eq]
    unfold setI
    simp [Map8.at_put]
  have E1 := Lib.hid e1
  clear e1 h
  unfold Map8.val
  rw [m.arr_eq]
  go_enter Tryd.func42, Tryd.ntmps42
  go_wp2_with fail
  refine calls_box2 ?_
  intro W hB hb1 hb2 _
  obtain ⟨hk1, hf1⟩ := Ext.cells hb1
  obtain ⟨hk2, hf2⟩ := Ext.cells hb2
  refine (bit_any _ _ _).mono ?_
  rintro e wr ⟨rfl, hbr⟩
  obtain ⟨y, rfl⟩ := Ext.of hbr
  go_wp2_with fail
  rw [← E1.out]
  refine bodyPost_ret (v := .agg #[.int .u64 (m.at 0), .int .u64 (bits .or .u64 (m.at 1) (bitO 1 s)), .int .u64 (m.at 2), .int .u64 (m.at 3), .int .u64 (m.at 4), .int .u64 (m.at 5), .int .u64 (m.at 6), .int .u64 (m.at 7)]) (by simp [results, Tryd.results42, go_sem, hk1, hk2]) rfl ⟨rfl, ?_⟩
  iterate 9 refine below_set ?_ (by simp) _
  exact below_then hB y.ok
set_option maxHeartbeats 4000000 in
set_option maxRecDepth 100000 in
theorem set_at2 (m : Map8) (s : Int) (w : World) (h : okS 2 s) :
    Calls Tryd.prog 42 #[m.val, .int .i64 2, .int .i64 s] w fun e w' => e = .returned (setI m 2 s).val ∧ Below w.heap.size w w' := by
  have g := bitO_in h
  have e1 : #[.int .u64 (m.at 0), .int .u64 (m.at 1), .int .u64 (bits .or .u64 (m.at 2) (bitO 2 s)), .int .u64 (m.at 3), .int .u64 (m.at 4), .int .u64 (m.at 5), .int .u64 (m.at 6), .int .u64 (m.at 7)] = (setI m 2 s).arr := by
    rw [(setI m 2 s).arr_eq]
    unfold setI
    simp [Map8.at_put]
  have E1 := Lib.hid e1
  clear e1 h
  unfold Map8.val
  rw [m.arr_eq]
  go_enter Tryd.func42, Tryd.ntmps42
  go_wp2_with fail
  refine calls_box2 ?_
  intro W hB hb1 hb2 _
  obtain ⟨hk1, hf1⟩ := Ext.cells hb1
  obtain ⟨hk2, hf2⟩ := Ext.cells hb2
  refine (bit_any _ _ _).mono ?_
  rintro e wr ⟨rfl, hbr⟩
  obtain ⟨y, rfl⟩ := Ext.of hbr
  go_wp2_with fail
  rw [← E1.out]
  refine bodyPost_ret (v := .agg #[.int .u64 (m.at 0), .int .u64 (m.at 1), .int .u64 (bits .or .u64 (m.at 2) (bitO 2 s)), .int .u64 (m.at 3), .int .u64 (m.at 4), .int .u64 (m.at 5), .int .u64 (m.at 6), .int .u64 (m.at 7)]) (by simp [results, Tryd.results42, go_sem, hk1, hk2]) rfl ⟨rfl, ?_⟩
  iterate 9 refine below_set ?_ (by simp) _
  exact below_then hB y.ok
set_option maxHeartbeats 4000000 in
set_option maxRecDepth 100000 in
theorem set_at3 (m : Map8) (s : Int) (w : World) (h : okS 3 s) :
    Calls Tryd.prog 42 #[m.val, .int .i64 3, .int .i64 s] w fun e w' => e = .returned (setI m 3 s).val ∧ Below w.heap.size w w' := by
  have g := bitO_in h
  have e1 : #[.int .u64 (m.at 0), .int .u64 (m.at 1), .int .u64 (m.at 2), .int .u64 (bits .or .u64 (m.at 3) (bitO 3 s)), .int .u64 (m.at 4), .int .u64 (m.at 5), .int .u64 (m.at 6), .int .u64 (m.at 7)] = (setI m 3 s).arr := by
    rw [(setI m 3 s).arr_eq]
    unfold setI
    simp [Map8.at_put]
  have E1 := Lib.hid e1
  clear e1 h
  unfold Map8.val
  rw [m.arr_eq]
  go_enter Tryd.func42, Tryd.ntmps42
  go_wp2_with fail
  refine calls_box2 ?_
  intro W hB hb1 hb2 _
  obtain ⟨hk1, hf1⟩ := Ext.cells hb1
  obtain ⟨hk2, hf2⟩ := Ext.cells hb2
  refine (bit_any _ _ _).mono ?_
  rintro e wr ⟨rfl, hbr⟩
  obtain ⟨y, rfl⟩ := Ext.of hbr
  go_wp2_with fail
  rw [← E1.out]
  refine bodyPost_ret (v := .agg #[.int .u64 (m.at 0), .int .u64 (m.at 1), .int .u64 (m.at 2), .int .u64 (bits .or .u64 (m.at 3) (bitO 3 s)), .int .u64 (m.at 4), .int .u64 (m.at 5), .int .u64 (m.at 6), .int .u64 (m.at 7)]) (by simp [results, Tryd.results42, go_sem, hk1, hk2]) rfl ⟨rfl, ?_⟩
  iterate 9 refine below_set ?_ (by simp) _
  exact below_then hB y.ok
set_option maxHeartbeats 4000000 in
set_option maxRecDepth 100000 in
theorem set_at4 (m : Map8) (s : Int) (w : World) (h : okS 4 s) :
    Calls Tryd.prog 42 #[m.val, .int .i64 4, .int .i64 s] w fun e w' => e = .returned (setI m 4 s).val ∧ Below w.heap.size w w' := by
  have g := bitO_in h
  have e1 : #[.int .u64 (m.at 0), .int .u64 (m.at 1), .int .u64 (m.at 2), .int .u64 (m.at 3), .int .u64 (bits .or .u64 (m.at 4) (bitO 4 s)), .int .u64 (m.at 5), .int .u64 (m.at 6), .int .u64 (m.at 7)] = (setI m 4 s).arr := by
    rw [(setI m 4 s).arr_eq]
    unfold setI
    simp [Map8.at_put]
  have E1 := Lib.hid e1
  clear e1 h
  unfold Map8.val
  rw [m.arr_eq]
  go_enter Tryd.func42, Tryd.ntmps42
  go_wp2_with fail
  refine calls_box2 ?_
  intro W hB hb1 hb2 _
  obtain ⟨hk1, hf1⟩ := Ext.cells hb1
  obtain ⟨hk2, hf2⟩ := Ext.cells hb2
  refine (bit_any _ _ _).mono ?_
  rintro e wr ⟨rfl, hbr⟩
  obtain ⟨y, rfl⟩ := Ext.of hbr
  go_wp2_with fail
  rw [← E1.out]
  refine bodyPost_ret (v := .agg #[.int .u64 (m.at 0), .int .u64 (m.at 1), .int .u64 (m.at 2), .int .u64 (m.at 3), .int .u64 (bits .or .u64 (m.at 4) (bitO 4 s)), .int .u64 (m.at 5), .int .u64 (m.at 6), .int .u64 (m.at 7)]) (by simp [results, Tryd.results42, go_sem, hk1, hk2]) rfl ⟨rfl, ?_⟩
  iterate 9 refine below_set ?_ (by simp) _
  exact below_then hB y.ok
set_option maxHeartbeats 4000000 in
set_option maxRecDepth 100000 in
theorem set_at5 (m : Map8) (s : Int) (w : World) (h : okS 5 s) :
    Calls Tryd.prog 42 #[m.val, .int .i64 5, .int .i64 s] w fun e w' => e = .returned (setI m 5 s).val ∧ Below w.heap.size w w' := by
  have g := bitO_in h
  have e1 : #[.int .u64 (m.at 0), .int .u64 (m.at 1), .int .u64 (m.at 2), .int .u64 (m.at 3), .int .u64 (m.at 4), .int .u64 (bits .or .u64 (m.at 5) (bitO 5 s)), .int .u64 (m.at 6), .int .u64 (m.at 7)] = (setI m 5 s).arr := by
    rw [(setI m 5 s).arr_eq]
    unfold setI
    simp [Map8.at_put]
  have E1 := Lib.hid e1
  clear e1 h
  unfold Map8.val
  rw [m.arr_eq]
  go_enter Tryd.func42, Tryd.ntmps42
  go_wp2_with fail
  refine calls_box2 ?_
  intro W hB hb1 hb2 _
  obtain ⟨hk1, hf1⟩ := Ext.cells hb1
  obtain ⟨hk2, hf2⟩ := Ext.cells hb2
  refine (bit_any _ _ _).mono ?_
  rintro e wr ⟨rfl, hbr⟩
  obtain ⟨y, rfl⟩ := Ext.of hbr
  go_wp2_with fail
  rw [← E1.out]
  refine bodyPost_ret (v := .agg #[.int .u64 (m.at 0), .int .u64 (m.at 1), .int .u64 (m.at 2), .int .u64 (m.at 3), .int .u64 (m.at 4), .int .u64 (bits .or .u64 (m.at 5) (bitO 5 s)), .int .u64 (m.at 6), .int .u64 (m.at 7)]) (by simp [results, Tryd.results42, go_sem, hk1, hk2]) rfl ⟨rfl, ?_⟩
  iterate 9 refine below_set ?_ (by simp) _
  exact below_then hB y.ok
set_option maxHeartbeats 4000000 in
set_option maxRecDepth 100000 in
theorem set_at6 (m : Map8) (s : Int) (w : World) (h : okS 6 s) :
    Calls Tryd.prog 42 #[m.val, .int .i64 6, .int .i64 s] w fun e w' => e = .returned (setI m 6 s).val ∧ Below w.heap.size w w' := by
  have g := bitO_in h
  have e1 : #[.int .u64 (m.at 0), .int .u64 (m.at 1), .int .u64 (m.at 2), .int .u64 (m.at 3), .int .u64 (m.at 4), .int .u64 (m.at 5), .int .u64 (bits .or .u64 (m.at 6) (bitO 6 s)), .int .u64 (m.at 7)] = (setI m 6 s).arr := by
    rw [(setI m 6 s).arr_eq]
    unfold setI
    simp [Map8.at_put]
  have E1 := Lib.hid e1
  clear e1 h
  unfold Map8.val
  rw [m.arr_eq]
  go_enter Tryd.func42, Tryd.ntmps42
  go_wp2_with fail
  refine calls_box2 ?_
  intro W hB hb1 hb2 _
  obtain ⟨hk1, hf1⟩ := Ext.cells hb1
  obtain ⟨hk2, hf2⟩ := Ext.cells hb2
  refine (bit_any _ _ _).mono ?_
  rintro e wr ⟨rfl, hbr⟩
  obtain ⟨y, rfl⟩ := Ext.of hbr
  go_wp2_with fail
  rw [← E1.out]
  refine bodyPost_ret (v := .agg #[.int .u64 (m.at 0), .int .u64 (m.at 1), .int .u64 (m.at 2), .int .u64 (m.at 3), .int .u64 (m.at 4), .int .u64 (m.at 5), .int .u64 (bits .or .u64 (m.at 6) (bitO 6 s)), .int .u64 (m.at 7)]) (by simp [results, Tryd.results42, go_sem, hk1, hk2]) rfl ⟨rfl, ?_⟩
  iterate 9 refine below_set ?_ (by simp) _
  exact below_then hB y.ok
set_option maxHeartbeats 4000000 in
set_option maxRecDepth 100000 in
theorem set_at7 (m : Map8) (s : Int) (w : World) (h : okS 7 s) :
    Calls Tryd.prog 42 #[m.val, .int .i64 7, .int .i64 s] w fun e w' => e = .returned (setI m 7 s).val ∧ Below w.heap.size w w' := by
  have g := bitO_in h
  have e1 : #[.int .u64 (m.at 0), .int .u64 (m.at 1), .int .u64 (m.at 2), .int .u64 (m.at 3), .int .u64 (m.at 4), .int .u64 (m.at 5), .int .u64 (m.at 6), .int .u64 (bits .or .u64 (m.at 7) (bitO 7 s))] = (setI m 7 s).arr := by
    rw [(setI m 7 s).arr_eq]
    unfold setI
    simp [Map8.at_put]
  have E1 := Lib.hid e1
  clear e1 h
  unfold Map8.val
  rw [m.arr_eq]
  go_enter Tryd.func42, Tryd.ntmps42
  go_wp2_with fail
  refine calls_box2 ?_
  intro W hB hb1 hb2 _
  obtain ⟨hk1, hf1⟩ := Ext.cells hb1
  obtain ⟨hk2, hf2⟩ := Ext.cells hb2
  refine (bit_any _ _ _).mono ?_
  rintro e wr ⟨rfl, hbr⟩
  obtain ⟨y, rfl⟩ := Ext.of hbr
  go_wp2_with fail
  rw [← E1.out]
  refine bodyPost_ret (v := .agg #[.int .u64 (m.at 0), .int .u64 (m.at 1), .int .u64 (m.at 2), .int .u64 (m.at 3), .int .u64 (m.at 4), .int .u64 (m.at 5), .int .u64 (m.at 6), .int .u64 (bits .or .u64 (m.at 7) (bitO 7 s))]) (by simp [results, Tryd.results42, go_sem, hk1, hk2]) rfl ⟨rfl, ?_⟩
  iterate 9 refine below_set ?_ (by simp) _
  exact below_then hB y.ok
def dropI (m : Map8) (l s : Int) : Map8 := m.put l (bits .andNot .u64 (m.at l) (bitO l s)) (andNot_range _ _ (m.at_range l).1 (m.at_range l).2 (bitO_range l s).1 (bitO_range l s).2).1 (andNot_range _ _ (m.at_range l).1 (m.at_range l).2 (bitO_range l s).1 (bitO_range l s).2).2
set_option maxHeartbeats 4000000 in
set_option maxRecDepth 100000 in
theorem drop_at0 (m : Map8) (s : Int) (w : World) (h : okS 0 s) :
    Calls Tryd.prog 43 #[m.val, .int .i64 0, .int .i64 s] w fun e w' => e = .returned (dropI m 0 s).val ∧ Below w.heap.size w w' := by
  have g := bitO_in h
  have e1 : #[.int .u64 (bits .andNot .u64 (m.at 0) (bitO 0 s)), .int .u64 (m.at 1), .int .u64 (m.at 2), .int .u64 (m.at 3), .int .u64 (m.at 4), .int .u64 (m.at 5), .int .u64 (m.at 6), .int .u64 (m.at 7)] = (dropI m 0 s).arr := by
    rw [(dropI m 0 s).arr_eq]
    unfold dropI
    simp [Map8.at_put]
  have E1 := Lib.hid e1
  clear e1 h
  unfold Map8.val
  rw [m.arr_eq]
  go_enter Tryd.func43, Tryd.ntmps43
  go_wp2_with fail
  refine calls_box2 ?_
  intro W hB hb1 hb2 _
  obtain ⟨hk1, hf1⟩ := Ext.cells hb1
  obtain ⟨hk2, hf2⟩ := Ext.cells hb2
  refine (bit_any _ _ _).mono ?_
  rintro e wr ⟨rfl, hbr⟩
  obtain ⟨y, rfl⟩ := Ext.of hbr
  go_wp2_with fail
  rw [← E1.out]
  refine bodyPost_ret (v := .agg #[.int .u64 (bits .andNot .u64 (m.at 0) (bitO 0 s)), .int .u64 (m.at 1), .int .u64 (m.at 2), .int .u64 (m.at 3), .int .u64 (m.at 4), .int .u64 (m.at 5), .int .u64 (m.at 6), .int .u64 (m.at 7)]) (by simp [results, Tryd.results43, go_sem, hk1, hk2]) rfl ⟨rfl, ?_⟩
  iterate 9 refine below_set ?_ (by simp) _
  exact below_then hB y.ok
set_option maxHeartbeats 4000000 in
set_option maxRecDepth 100000 in
theorem drop_at1 (m : Map8) (s : Int) (w : World) (h : okS 1 s) :
    Calls Tryd.prog 43 #[m.val, .int .i64 1, .int .i64 s] w fun e w' => e = .returned (dropI m 1 s).val ∧ Below w.heap.size w w' := by
  have g := bitO_in h
  have e1 : #[.int .u64 (m.at 0), .int .u64 (bits .andNot .u64 (m.at 1) (bitO 1 s)), .int .u64 (m.at 2), .int .u64 (m.at 3), .int .u64 (m.at 4), .int .u64 (m.at 5), .int .u64 (m.at 6), .int .u64 (m.at 7)] = (dropI m 1 s).arr := by
    rw [(dropI m 1 s).arr_eq]
    unfold dropI
    simp [Map8.at_put]
  have E1 := Lib.hid e1
  clear e1 h
  unfold Map8.val
  rw [m.arr_eq]
  go_enter Tryd.func43, Tryd.ntmps43
  go_wp2_with fail
  refine calls_box2 ?_
  intro W hB hb1 hb2 _
  obtain ⟨hk1, hf1⟩ := Ext.cells hb1
  obtain ⟨hk2, hf2⟩ := Ext.cells hb2
  refine (bit_any _ _ _).mono ?_
  rintro e wr ⟨rfl, hbr⟩
  obtain ⟨y, rfl⟩ := Ext.of hbr
  go_wp2_with fail
  rw [← E1.out]
  refine bodyPost_ret (v := .agg #[.int .u64 (m.at 0), .int .u64 (bits .andNot .u64 (m.at 1) (bitO 1 s)), .int .u64 (m.at 2), .int .u64 (m.at 3), .int .u64 (m.at 4), .int .u64 (m.at 5), .int .u64 (m.at 6), .int .u64 (m.at 7)]) (by simp [results, Tryd.results43, go_sem, hk1, hk2]) rfl ⟨rfl, ?_⟩
  iterate 9 refine below_set ?_ (by simp) _
  exact below_then hB y.ok
set_option maxHeartbeats 4000000 in
set_option maxRecDepth 100000 in
theorem drop_at2 (m : Map8) (s : Int) (w : World) (h : okS 2 s) :
    Calls Tryd.prog 43 #[m.val, .int .i64 2, .int .i64 s] w fun e w' => e = .returned (dropI m 2 s).val ∧ Below w.heap.size w w' := by
  have g := bitO_in h
  have e1 : #[.int .u64 (m.at 0), .int .u64 (m.at 1), .int .u64 (bits .andNot .u64 (m.at 2) (bitO 2 s)), .int .u64 (m.at 3), .int .u64 (m.at 4), .int .u64 (m.at 5), .int .u64 (m.at 6), .int .u64 (m.at 7)] = (dropI m 2 s).arr := by
    rw [(dropI m 2 s).arr_eq]
    unfold dropI
    simp [Map8.at_put]
  have E1 := Lib.hid e1
  clear e1 h
  unfold Map8.val
  rw [m.arr_eq]
  go_enter Tryd.func43, Tryd.ntmps43
  go_wp2_with fail
  refine calls_box2 ?_
  intro W hB hb1 hb2 _
  obtain ⟨hk1, hf1⟩ := Ext.cells hb1
  obtain ⟨hk2, hf2⟩ := Ext.cells hb2
  refine (bit_any _ _ _).mono ?_
  rintro e wr ⟨rfl, hbr⟩
  obtain ⟨y, rfl⟩ := Ext.of hbr
  go_wp2_with fail
  rw [← E1.out]
  refine bodyPost_ret (v := .agg #[.int .u64 (m.at 0), .int .u64 (m.at 1), .int .u64 (bits .andNot .u64 (m.at 2) (bitO 2 s)), .int .u64 (m.at 3), .int .u64 (m.at 4), .int .u64 (m.at 5), .int .u64 (m.at 6), .int .u64 (m.at 7)]) (by simp [results, Tryd.results43, go_sem, hk1, hk2]) rfl ⟨rfl, ?_⟩
  iterate 9 refine below_set ?_ (by simp) _
  exact below_then hB y.ok
set_option maxHeartbeats 4000000 in
set_option maxRecDepth 100000 in
theorem drop_at3 (m : Map8) (s : Int) (w : World) (h : okS 3 s) :
    Calls Tryd.prog 43 #[m.val, .int .i64 3, .int .i64 s] w fun e w' => e = .returned (dropI m 3 s).val ∧ Below w.heap.size w w' := by
  have g := bitO_in h
  have e1 : #[.int .u64 (m.at 0), .int .u64 (m.at 1), .int .u64 (m.at 2), .int .u64 (bits .andNot .u64 (m.at 3) (bitO 3 s)), .int .u64 (m.at 4), .int .u64 (m.at 5), .int .u64 (m.at 6), .int .u64 (m.at 7)] = (dropI m 3 s).arr := by
    rw [(dropI m 3 s).arr_eq]
    unfold dropI
    simp [Map8.at_put]
  have E1 := Lib.hid e1
  clear e1 h
  unfold Map8.val
  rw [m.arr_eq]
  go_enter Tryd.func43, Tryd.ntmps43
  go_wp2_with fail
  refine calls_box2 ?_
  intro W hB hb1 hb2 _
  obtain ⟨hk1, hf1⟩ := Ext.cells hb1
  obtain ⟨hk2, hf2⟩ := Ext.cells hb2
  refine (bit_any _ _ _).mono ?_
  rintro e wr ⟨rfl, hbr⟩
  obtain ⟨y, rfl⟩ := Ext.of hbr
  go_wp2_with fail
  rw [← E1.out]
  refine bodyPost_ret (v := .agg #[.int .u64 (m.at 0), .int .u64 (m.at 1), .int .u64 (m.at 2), .int .u64 (bits .andNot .u64 (m.at 3) (bitO 3 s)), .int .u64 (m.at 4), .int .u64 (m.at 5), .int .u64 (m.at 6), .int .u64 (m.at 7)]) (by simp [results, Tryd.results43, go_sem, hk1, hk2]) rfl ⟨rfl, ?_⟩
  iterate 9 refine below_set ?_ (by simp) _
  exact below_then hB y.ok
set_option maxHeartbeats 4000000 in
set_option maxRecDepth 100000 in
theorem drop_at4 (m : Map8) (s : Int) (w : World) (h : okS 4 s) :
    Calls Tryd.prog 43 #[m.val, .int .i64 4, .int .i64 s] w fun e w' => e = .returned (dropI m 4 s).val ∧ Below w.heap.size w w' := by
  have g := bitO_in h
  have e1 : #[.int .u64 (m.at 0), .int .u64 (m.at 1), .int .u64 (m.at 2), .int .u64 (m.at 3), .int .u64 (bits .andNot .u64 (m.at 4) (bitO 4 s)), .int .u64 (m.at 5), .int .u64 (m.at 6), .int .u64 (m.at 7)] = (dropI m 4 s).arr := by
    rw [(dropI m 4 s).arr_eq]
    unfold dropI
    simp [Map8.at_put]
  have E1 := Lib.hid e1
  clear e1 h
  unfold Map8.val
  rw [m.arr_eq]
  go_enter Tryd.func43, Tryd.ntmps43
  go_wp2_with fail
  refine calls_box2 ?_
  intro W hB hb1 hb2 _
  obtain ⟨hk1, hf1⟩ := Ext.cells hb1
  obtain ⟨hk2, hf2⟩ := Ext.cells hb2
  refine (bit_any _ _ _).mono ?_
  rintro e wr ⟨rfl, hbr⟩
  obtain ⟨y, rfl⟩ := Ext.of hbr
  go_wp2_with fail
  rw [← E1.out]
  refine bodyPost_ret (v := .agg #[.int .u64 (m.at 0), .int .u64 (m.at 1), .int .u64 (m.at 2), .int .u64 (m.at 3), .int .u64 (bits .andNot .u64 (m.at 4) (bitO 4 s)), .int .u64 (m.at 5), .int .u64 (m.at 6), .int .u64 (m.at 7)]) (by simp [results, Tryd.results43, go_sem, hk1, hk2]) rfl ⟨rfl, ?_⟩
  iterate 9 refine below_set ?_ (by simp) _
  exact below_then hB y.ok
set_option maxHeartbeats 4000000 in
set_option maxRecDepth 100000 in
theorem drop_at5 (m : Map8) (s : Int) (w : World) (h : okS 5 s) :
    Calls Tryd.prog 43 #[m.val, .int .i64 5, .int .i64 s] w fun e w' => e = .returned (dropI m 5 s).val ∧ Below w.heap.size w w' := by
  have g := bitO_in h
  have e1 : #[.int .u64 (m.at 0), .int .u64 (m.at 1), .int .u64 (m.at 2), .int .u64 (m.at 3), .int .u64 (m.at 4), .int .u64 (bits .andNot .u64 (m.at 5) (bitO 5 s)), .int .u64 (m.at 6), .int .u64 (m.at 7)] = (dropI m 5 s).arr := by
    rw [(dropI m 5 s).arr_eq]
    unfold dropI
    simp [Map8.at_put]
  have E1 := Lib.hid e1
  clear e1 h
  unfold Map8.val
  rw [m.arr_eq]
  go_enter Tryd.func43, Tryd.ntmps43
  go_wp2_with fail
  refine calls_box2 ?_
  intro W hB hb1 hb2 _
  obtain ⟨hk1, hf1⟩ := Ext.cells hb1
  obtain ⟨hk2, hf2⟩ := Ext.cells hb2
  refine (bit_any _ _ _).mono ?_
  rintro e wr ⟨rfl, hbr⟩
  obtain ⟨y, rfl⟩ := Ext.of hbr
  go_wp2_with fail
  rw [← E1.out]
  refine bodyPost_ret (v := .agg #[.int .u64 (m.at 0), .int .u64 (m.at 1), .int .u64 (m.at 2), .int .u64 (m.at 3), .int .u64 (m.at 4), .int .u64 (bits .andNot .u64 (m.at 5) (bitO 5 s)), .int .u64 (m.at 6), .int .u64 (m.at 7)]) (by simp [results, Tryd.results43, go_sem, hk1, hk2]) rfl ⟨rfl, ?_⟩
  iterate 9 refine below_set ?_ (by simp) _
  exact below_then hB y.ok
set_option maxHeartbeats 4000000 in
set_option maxRecDepth 100000 in
theorem drop_at6 (m : Map8) (s : Int) (w : World) (h : okS 6 s) :
    Calls Tryd.prog 43 #[m.val, .int .i64 6, .int .i64 s] w fun e w' => e = .returned (dropI m 6 s).val ∧ Below w.heap.size w w' := by
  have g := bitO_in h
  have e1 : #[.int .u64 (m.at 0), .int .u64 (m.at 1), .int .u64 (m.at 2), .int .u64 (m.at 3), .int .u64 (m.at 4), .int .u64 (m.at 5), .int .u64 (bits .andNot .u64 (m.at 6) (bitO 6 s)), .int .u64 (m.at 7)] = (dropI m 6 s).arr := by
    rw [(dropI m 6 s).arr_eq]
    unfold dropI
    simp [Map8.at_put]
  have E1 := Lib.hid e1
  clear e1 h
  unfold Map8.val
  rw [m.arr_eq]
  go_enter Tryd.func43, Tryd.ntmps43
  go_wp2_with fail
  refine calls_box2 ?_
  intro W hB hb1 hb2 _
  obtain ⟨hk1, hf1⟩ := Ext.cells hb1
  obtain ⟨hk2, hf2⟩ := Ext.cells hb2
  refine (bit_any _ _ _).mono ?_
  rintro e wr ⟨rfl, hbr⟩
  obtain ⟨y, rfl⟩ := Ext.of hbr
  go_wp2_with fail
  rw [← E1.out]
  refine bodyPost_ret (v := .agg #[.int .u64 (m.at 0), .int .u64 (m.at 1), .int .u64 (m.at 2), .int .u64 (m.at 3), .int .u64 (m.at 4), .int .u64 (m.at 5), .int .u64 (bits .andNot .u64 (m.at 6) (bitO 6 s)), .int .u64 (m.at 7)]) (by simp [results, Tryd.results43, go_sem, hk1, hk2]) rfl ⟨rfl, ?_⟩
  iterate 9 refine below_set ?_ (by simp) _
  exact below_then hB y.ok
set_option maxHeartbeats 4000000 in
set_option maxRecDepth 100000 in
theorem drop_at7 (m : Map8) (s : Int) (w : World) (h : okS 7 s) :
    Calls Tryd.prog 43 #[m.val, .int .i64 7, .int .i64 s] w fun e w' => e = .returned (dropI m 7 s).val ∧ Below w.heap.size w w' := by
  have g := bitO_in h
  have e1 : #[.int .u64 (m.at 0), .int .u64 (m.at 1), .int .u64 (m.at 2), .int .u64 (m.at 3), .int .u64 (m.at 4), .int .u64 (m.at 5), .int .u64 (m.at 6), .int .u64 (bits .andNot .u64 (m.at 7) (bitO 7 s))] = (dropI m 7 s).arr := by
    rw [(dropI m 7 s).arr_eq]
    unfold dropI
    simp [Map8.at_put]
  have E1 := Lib.hid e1
  clear e1 h
  unfold Map8.val
  rw [m.arr_eq]
  go_enter Tryd.func43, Tryd.ntmps43
  go_wp2_with fail
  refine calls_box2 ?_
  intro W hB hb1 hb2 _
  obtain ⟨hk1, hf1⟩ := Ext.cells hb1
  obtain ⟨hk2, hf2⟩ := Ext.cells hb2
  refine (bit_any _ _ _).mono ?_
  rintro e wr ⟨rfl, hbr⟩
  obtain ⟨y, rfl⟩ := Ext.of hbr
  go_wp2_with fail
  rw [← E1.out]
  refine bodyPost_ret (v := .agg #[.int .u64 (m.at 0), .int .u64 (m.at 1), .int .u64 (m.at 2), .int .u64 (m.at 3), .int .u64 (m.at 4), .int .u64 (m.at 5), .int .u64 (m.at 6), .int .u64 (bits .andNot .u64 (m.at 7) (bitO 7 s))]) (by simp [results, Tryd.results43, go_sem, hk1, hk2]) rfl ⟨rfl, ?_⟩
  iterate 9 refine below_set ?_ (by simp) _
  exact below_then hB y.ok
set_option maxHeartbeats 4000000 in
set_option maxRecDepth 100000 in
theorem set_out (m : Map8) (l s : Int) (w : World) (h : ¬ okS l s) :
    Calls Tryd.prog 42 #[m.val, .int .i64 l, .int .i64 s] w fun e w' => e = .returned m.val ∧ Below w.heap.size w w' := by
  have g := bitO_out h
  clear h
  unfold Map8.val
  rw [m.arr_eq]
  go_enter Tryd.func42, Tryd.ntmps42
  go_wp2_with fail
  refine calls_box2 ?_
  intro W hB hb1 hb2 _
  obtain ⟨hk1, hf1⟩ := Ext.cells hb1
  obtain ⟨hk2, hf2⟩ := Ext.cells hb2
  refine (bit_any _ _ _).mono ?_
  rintro e wr ⟨rfl, hbr⟩
  obtain ⟨y, rfl⟩ := Ext.of hbr
  go_wp2_with fail
  refine bodyPost_ret (v := .agg #[.int .u64 (m.at 0), .int .u64 (m.at 1), .int .u64 (m.at 2), .int .u64 (m.at 3), .int .u64 (m.at 4), .int .u64 (m.at 5), .int .u64 (m.at 6), .int .u64 (m.at 7)]) (by simp [results, Tryd.results42, go_sem, hk1, hk2]) rfl ⟨rfl, ?_⟩
  iterate 8 refine below_set ?_ (by simp) _
  exact below_then hB y.ok
def setM (m : Map8) (l s : Int) : Map8 := if okS l s then setI m l s else m
theorem set_any (m : Map8) (l s : Int) (w : World) :
    Calls Tryd.prog 42 #[m.val, .int .i64 l, .int .i64 s] w fun e w' => e = .returned (setM m l s).val ∧ Below w.heap.size w w' := by
  by_cases h : okS l s
  · rw [setM, if_pos h]
    have hl : l = 0 ∨ l = 1 ∨ l = 2 ∨ l = 3 ∨ l = 4 ∨ l = 5 ∨ l = 6 ∨ l = 7 := by have := h.1; have := h.2.1; omega
    rcases hl with rfl | rfl | rfl | rfl | rfl | rfl | rfl | rfl
    · exact set_at0 m s w h
    · exact set_at1 m s w h
    · exact set_at2 m s w h
    · exact set_at3 m s w h
    · exact set_at4 m s w h
    · exact set_at5 m s w h
    · exact set_at6 m s w h
    · exact set_at7 m s w h
  · rw [setM, if_neg h]
    exact set_out m l s w h
set_option maxHeartbeats 4000000 in
set_option maxRecDepth 100000 in
theorem drop_out (m : Map8) (l s : Int) (w : World) (h : ¬ okS l s) :
    Calls Tryd.prog 43 #[m.val, .int .i64 l, .int .i64 s] w fun e w' => e = .returned m.val ∧ Below w.heap.size w w' := by
  have g := bitO_out h
  clear h
  unfold Map8.val
  rw [m.arr_eq]
  go_enter Tryd.func43, Tryd.ntmps43
  go_wp2_with fail
  refine calls_box2 ?_
  intro W hB hb1 hb2 _
  obtain ⟨hk1, hf1⟩ := Ext.cells hb1
  obtain ⟨hk2, hf2⟩ := Ext.cells hb2
  refine (bit_any _ _ _).mono ?_
  rintro e wr ⟨rfl, hbr⟩
  obtain ⟨y, rfl⟩ := Ext.of hbr
  go_wp2_with fail
  refine bodyPost_ret (v := .agg #[.int .u64 (m.at 0), .int .u64 (m.at 1), .int .u64 (m.at 2), .int .u64 (m.at 3), .int .u64 (m.at 4), .int .u64 (m.at 5), .int .u64 (m.at 6), .int .u64 (m.at 7)]) (by simp [results, Tryd.results43, go_sem, hk1, hk2]) rfl ⟨rfl, ?_⟩
  iterate 8 refine below_set ?_ (by simp) _
  exact below_then hB y.ok
def dropM (m : Map8) (l s : Int) : Map8 := if okS l s then dropI m l s else m
theorem drop_any (m : Map8) (l s : Int) (w : World) :
    Calls Tryd.prog 43 #[m.val, .int .i64 l, .int .i64 s] w fun e w' => e = .returned (dropM m l s).val ∧ Below w.heap.size w w' := by
  by_cases h : okS l s
  · rw [dropM, if_pos h]
    have hl : l = 0 ∨ l = 1 ∨ l = 2 ∨ l = 3 ∨ l = 4 ∨ l = 5 ∨ l = 6 ∨ l = 7 := by have := h.1; have := h.2.1; omega
    rcases hl with rfl | rfl | rfl | rfl | rfl | rfl | rfl | rfl
    · exact drop_at0 m s w h
    · exact drop_at1 m s w h
    · exact drop_at2 m s w h
    · exact drop_at3 m s w h
    · exact drop_at4 m s w h
    · exact drop_at5 m s w h
    · exact drop_at6 m s w h
    · exact drop_at7 m s w h
  · rw [dropM, if_neg h]
    exact drop_out m l s w h
end Go.Proofs.YtnoafhfidecppaaDoor
