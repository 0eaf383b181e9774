/- The table of slots: bit, Next, Has, Set, Drop. -/
import Derived.Test.YtnoafhfidecppaaDoorBitsH
import Derived.Test.YtnoafhfidecppaaDoorBitsum
namespace Go.Proofs.YtnoafhfidecppaaDoor
open Go.RowKit
set_option linter.unusedVariables false
set_option linter.unusedSimpArgs false

/-- A map of eight words. -/
structure Map8 where
  ws : List Int
  len : ws.length = 8
  lo : ∀ i, 0 ≤ ws.getD i 0
  hi : ∀ i, ws.getD i 0 ≤ 18446744073709551615
def Map8.arr (m : Map8) : Array Value := (m.ws.map (Value.int .u64)).toArray
def Map8.val (m : Map8) : Value := .agg m.arr
theorem Map8.size (m : Map8) : m.arr.size = 8 := by simp [Map8.arr, m.len]
def Map8.at (m : Map8) (i : Int) : Int := m.ws.getD i.toNat 0
theorem Map8.at_range (m : Map8) (i : Int) : 0 ≤ m.at i ∧ m.at i ≤ 18446744073709551615 := ⟨m.lo _, m.hi _⟩
theorem Map8.cell (m : Map8) (i : Int) (h0 : 0 ≤ i) (h1 : i < 8) : m.arr[i.toNat]? = some (.int .u64 (m.at i)) := by
  have := m.len
  have h : i.toNat < m.ws.length := by omega
  simp [Map8.arr, Map8.at, List.getD_eq_getElem?_getD, h]
def okS (l s : Int) : Prop := 0 ≤ l ∧ l < 8 ∧ 0 ≤ s ∧ s < 64
instance (l s : Int) : Decidable (okS l s) := inferInstanceAs (Decidable (_ ∧ _ ∧ _ ∧ _))
def bitO (l s : Int) : Int := if okS l s then 2 ^ s.toNat else 0
theorem pow_u64 (j : Nat) (h : j < 64) : (1 : Int) ≤ 2 ^ j ∧ (2 : Int) ^ j ≤ 9223372036854775808 := by
  have h1 := Nat.one_le_two_pow (n := j)
  have h2 := Nat.pow_le_pow_right (n := 2) (by decide) (show j ≤ 63 by omega)
  have h3 : (2 : Nat) ^ 63 = 9223372036854775808 := by decide
  rw [h3] at h2
  have e : ((2 ^ j : Nat) : Int) = 2 ^ j := by simp
  omega
set_option maxHeartbeats 4000000 in
set_option maxRecDepth 100000 in
theorem bit_any (l s : Int) (w : World) :
    Calls Tryd.prog 60 #[.int .i64 l, .int .i64 s] w fun e w' => e = .returned (.int .u64 (bitO l s)) ∧ Below w.heap.size w w' := by
  by_cases h : l < 0
  · have g1 : decide (l < 0) = true := by simpa using h
    have e1 : 0 = bitO l s := by rw [bitO, if_neg (by unfold okS; omega)]
    have E1 := Lib.hid e1
    clear e1
    go_enter Tryd.func60, Tryd.ntmps60
    go_wp2
    go_ret
    exact ⟨ret_int E1.out, Below.refl _ _⟩
  by_cases h : 8 ≤ l
  · have g1 : decide (l < 0) = false := by simp; omega
    have g2 : decide (8 ≤ l) = true := by simpa using h
    have e1 : 0 = bitO l s := by rw [bitO, if_neg (by unfold okS; omega)]
    have E1 := Lib.hid e1
    clear e1
    go_enter Tryd.func60, Tryd.ntmps60
    go_wp2
    go_ret
    exact ⟨ret_int E1.out, Below.refl _ _⟩
  by_cases h : s < 0
  · have g1 : decide (l < 0) = false := by simp; omega
    have g2 : decide (8 ≤ l) = false := by simp; omega
    have g3 : decide (s < 0) = true := by simpa using h
    have e1 : 0 = bitO l s := by rw [bitO, if_neg (by unfold okS; omega)]
    have E1 := Lib.hid e1
    clear e1
    go_enter Tryd.func60, Tryd.ntmps60
    go_wp2
    go_ret
    exact ⟨ret_int E1.out, Below.refl _ _⟩
  by_cases h : 64 ≤ s
  · have g1 : decide (l < 0) = false := by simp; omega
    have g2 : decide (8 ≤ l) = false := by simp; omega
    have g3 : decide (s < 0) = false := by simp; omega
    have g4 : decide (64 ≤ s) = true := by simpa using h
    have e1 : 0 = bitO l s := by rw [bitO, if_neg (by unfold okS; omega)]
    have E1 := Lib.hid e1
    clear e1
    go_enter Tryd.func60, Tryd.ntmps60
    go_wp2
    go_ret
    exact ⟨ret_int E1.out, Below.refl _ _⟩
  have g1 : decide (l < 0) = false := by simp; omega
  have g2 : decide (8 ≤ l) = false := by simp; omega
  have g3 : decide (s < 0) = false := by simp; omega
  have g4 : decide (64 ≤ s) = false := by simp; omega
  have hp := pow_u64 s.toNat (by omega)
  have e1 : 2 ^ s.toNat = bitO l s := by rw [bitO, if_pos ⟨by omega, by omega, by omega, by omega⟩]
  have E1 := Lib.hid e1
  have e2 : IntKind.u64.wrap (2 ^ s.toNat) = 2 ^ s.toNat := by rw [IntKind.wrap_u64]; omega
  clear e1
  go_enter Tryd.func60, Tryd.ntmps60
  go_wp2
  go_ret
  exact ⟨ret_int E1.out, Below.refl _ _⟩
theorem bit0_in {l : Int} (h0 : 0 ≤ l) (h1 : l < 8) : (bitO l 0 == 0) = false := by
  rw [bitO, if_pos ⟨h0, h1, by omega, by omega⟩]; rfl
theorem bit0_out {l : Int} (h : ¬ (0 ≤ l ∧ l < 8)) : (bitO l 0 == 0) = true := by
  rw [bitO, if_neg (by unfold okS; omega)]; rfl
def nextI (m : Map8) (l s : Int) : Int := if 0 ≤ l ∧ l < 8 then firstI (m.at l) s else -1
set_option maxHeartbeats 4000000 in
set_option maxRecDepth 100000 in
theorem next_any (m : Map8) (l s : Int) (w : World) (hT : Tab w) :
    Calls Tryd.prog 38 #[m.val, .int .i64 l, .int .i64 s] w fun e w' => e = .returned (.int .i64 (nextI m l s)) ∧ Below w.heap.size w w' := by
  have HT := Lib.hid hT
  clear hT
  by_cases h : 0 ≤ l ∧ l < 8
  · have g := bit0_in h.1 h.2
    obtain ⟨h0, h1⟩ := h
    have e1 : firstI (m.at l) s = nextI m l s := by rw [nextI, if_pos ⟨h0, h1⟩]
    have E1 := Lib.hid e1
    clear e1
    have hc := m.cell l h0 h1
    have hlen := m.size
    obtain ⟨r0, r1⟩ := m.at_range l
    unfold Map8.val
    go_enter Tryd.func38, Tryd.ntmps38
    go_wp2_with fail
    refine calls_box ?_
    intro W hB hb1 _
    obtain ⟨hk0, hf1⟩ := Ext.cells hb1
    have hk1 : ∀ x : Ext W.heap.size W, x.world.cell? ⟨w.heap.size, l.toNat, none⟩ = some (.int .u64 (m.at l)) := fun x => (hk0 x _).trans hc
    clear hk0 hc
    refine (bit_any _ _ _).mono ?_
    rintro e wr ⟨rfl, hbr⟩
    obtain ⟨y, rfl⟩ := Ext.of hbr
    go_wp2_with (first | (go_at_call 19; refine (first_any _ _ _ r0 r1 ((HT.out.ext hB).at _)).mono ?_; rintro e wr ⟨rfl, hbr⟩; obtain ⟨y, rfl⟩ := Ext.step _ hbr; clear hbr))
    go_ret
    exact ⟨ret_int E1.out, below_then hB (Ext.ok _)⟩
  · have g := bit0_out h
    have e1 : -1 = nextI m l s := by rw [nextI, if_neg h]
    have E1 := Lib.hid e1
    clear e1 h
    unfold Map8.val
    go_enter Tryd.func38, Tryd.ntmps38
    go_wp2_with fail
    refine calls_box ?_
    intro W hB hb1 _
    refine (bit_any _ _ _).mono ?_
    rintro e wr ⟨rfl, hbr⟩
    obtain ⟨y, rfl⟩ := Ext.of hbr
    go_wp2_with fail
    go_ret
    exact ⟨ret_int E1.out, below_then hB (Ext.ok _)⟩
end Go.Proofs.YtnoafhfidecppaaDoor
