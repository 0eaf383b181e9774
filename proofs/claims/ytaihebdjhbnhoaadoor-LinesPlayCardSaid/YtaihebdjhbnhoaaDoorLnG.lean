/- The document's lines: Least. -/
import Derived.Test.YtaihebdjhbnhoaaDoorLnF
import Derived.Test.YtaihebdjhbnhoaaDoorStorePart
namespace Go.Proofs.YtaihebdjhbnhoaaDoor
open Go.RowKit
set_option linter.unusedVariables false
set_option linter.unusedSimpArgs false

/-- The document's row: the lines, the mask. -/
def ll (h m : Int) : List Bool := t32 (bitI h) ++ t32 (bitI m)
theorem ll_len (h m : Int) : (ll h m).length = 64 := by simp [ll, t32_len]
theorem ll_lo (h m : Int) {i : Nat} (hi : i < 32) : (ll h m)[i]? = some (bitI h i) := by
  unfold ll
  rw [List.getElem?_append_left (by rw [t32_len]; exact hi), t32_get _ hi]
theorem ll_hi (h m : Int) {i : Nat} (hi : i < 32) : (ll h m)[32 + i]? = some (bitI m i) := by
  unfold ll
  rw [List.getElem?_append_right (by rw [t32_len]; omega), t32_len, show 32 + i - 32 = i by omega, t32_get _ hi]
def lrow (h m : Int) : Array Value := bools (ll h m)
theorem high_bits {n : Int} (h0 : 0 ≤ n) (h1 : n ≤ 4294967295) {j : Nat} (hj : 32 ≤ j) : bitI n j = false := by
  have p : (2 : Int) ^ 32 ≤ 2 ^ j := by exact_mod_cast Nat.pow_le_pow_right (by decide : 0 < 2) hj
  have e : n / 2 ^ j = 0 := Int.ediv_eq_zero_of_lt h0 (by omega)
  simp [bitI, e]
theorem least_none {h m : Int} (h0 : 0 ≤ h) (h1 : h ≤ 4294967295) (m0 : 0 ≤ m) (m1 : m ≤ 4294967295) (hd : ∀ j, j < 32 → (bitI h j && bitI m j) = false) : leastI h m = -1 := by
  obtain ⟨p, q, r⟩ := and_u32 h m h0 h1 m0 m1
  exact scan_none _ _ _ fun j _ _ => by
    rcases Nat.lt_or_ge j 32 with x | x
    · rw [r j x]; exact hd j x
    · exact high_bits p q x
theorem least_at {h m : Int} (h0 : 0 ≤ h) (h1 : h ≤ 4294967295) (m0 : 0 ≤ m) (m1 : m ≤ 4294967295) {k : Nat} (hk : k < 32) (hx : (bitI h k && bitI m k) = true) (hd : ∀ j, j < k → (bitI h j && bitI m j) = false) : leastI h m = (k : Int) := by
  obtain ⟨p, q, r⟩ := and_u32 h m h0 h1 m0 m1
  exact scan_at _ k (by rw [r k hk]; exact hx) _ _ (Nat.zero_le _) (by simp; omega) fun j _ hj => by rw [r j (by omega)]; exact hd j hj
set_option maxHeartbeats 8000000 in
set_option maxRecDepth 100000 in
theorem rleast_any (h m : Int) (w : World) (h0 : 0 ≤ h) (h1 : h ≤ 4294967295) (m0 : 0 ≤ m) (m1 : m ≤ 4294967295) :
    Calls Tryd.prog 29 #[.agg (lrow h m)] w fun e w' => e = .returned (.int .i64 (leastI h m)) ∧ Below w.heap.size w w' := by
  go_enter Tryd.func29, Tryd.ntmps29
  go_upto_region 1 with (fail)
  refine wp_box ?_
  intro W hB b0 hW
  have R0 : RowAt W w.heap.size (bools (ll h m)) 39 := b0
  have HR := Lib.hid R0
  have HB := Lib.hid hB
  clear b0 R0 hB
  go_wp2_with fail
  go_loopw [3] (fun i wr => (∃ k : Nat, k ≤ 32 ∧ i = .int .i64 k ∧ ∀ j, j < k → (bitI h j && bitI m j) = false) ∧ wr = W) (fun i _ => 32 - (intOf i).toNat)
  case atStart => exact ⟨⟨0, by omega, rfl, fun j hj => absurd hj (by omega)⟩, rfl⟩
  case round =>
    obtain ⟨⟨k, hk, rfl, hd⟩, rfl⟩ := hrel
    have HD := Lib.hid hd
    clear hd
    by_cases hlt : k < 32
    · have k0 : (0 : Int) ≤ (k : Int) := by omega
      have k32 : (k : Int) < 32 := by omega
      have c0 := HR.out.cell (bools_get (ll_lo h m hlt))
      have c1 := HR.out.cell (bools_get (ll_hi h m hlt))
      rcases Bool.eq_false_or_eq_true (bitI h k) with hx | hx <;> rcases Bool.eq_false_or_eq_true (bitI m k) with hy | hy
      · have hl := least_at h0 h1 m0 m1 hlt (by rw [hx, hy]; rfl) HD.out
        rw [hx] at c0
        rw [hy] at c1
        have HL := Lib.hid hl
        clear hx hy hl
        go_wp2_with fail
        go_ret
        exact ⟨by rw [HL.out]; rfl, HB.out⟩
      all_goals
        have hd2 : ∀ j, j < k + 1 → (bitI h j && bitI m j) = false := by
          intro j hj
          rcases Nat.lt_or_ge j k with z | z
          · exact HD.out j z
          · obtain rfl : j = k := by omega
            rw [hx, hy]; rfl
        have HD2 := Lib.hid hd2
        rw [hx] at c0
        rw [hy] at c1
        clear hx hy hd2
        go_wp2_with fail
        go_roundw
        case measure => simp [intOf]; omega
        case rel => exact ⟨⟨k + 1, by omega, by go_num, HD2.out⟩, by first | trivial | rfl⟩
    · obtain rfl : k = 32 := by omega
      have hl := least_none h0 h1 m0 m1 HD.out
      have HL := Lib.hid hl
      clear hl
      go_wp2_with fail
      go_ret
      exact ⟨by rw [HL.out]; rfl, HB.out⟩
end Go.Proofs.YtaihebdjhbnhoaaDoor
