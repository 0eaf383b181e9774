/- A live histogram's buckets and parts, for any argument; the chapter's example. -/
import Derived.Test.YtaihebdjhbnhoaaHistJ
namespace Go.Proofs.Ytaihebdjhbnhoaa
open Go.RowKit
set_option linter.unusedVariables false
set_option linter.unusedSimpArgs false

def bucketI (L : List Int) (k : Int) : Int := if 0 ≤ k ∧ k < 65 then cntL L k.toNat else 0
set_option maxHeartbeats 8000000 in
set_option maxRecDepth 100000 in
theorem bucket_L (b : Nat) (L : List Int) (k : Int) (w : World) (hA : HistAt w b (HsOf L)) (k0 : -9223372036854775808 ≤ k) (k1 : k ≤ 9223372036854775807) :
    Calls Try.prog 24 #[.pointer (some ⟨b, 0, none⟩), .int .i64 k] w fun e w' => e = .returned (.int .i64 (bucketI L k)) ∧ Below w.heap.size w w' := by
  unfold bucketI
  by_cases h : 0 ≤ k ∧ k < 65
  · rw [if_pos h]
    refine bucket_in b (HsOf L) k (cntL L k.toNat) w hA h.1 h.2 ?_
    rw [List.getElem?_map, show (HsOf L).n = bucketsL L from rfl, bucketsL_get L (by omega)]
    rfl
  · rw [if_neg h]
    have hE : endsI k = (0, 0, false) := by
      unfold endsI
      rw [if_pos (by omega)]
    clear h
    go_enter Try.func24, Try.ntmps24
    go_wp2_with (go_at_call 12; refine (ends_any k _ k0 k1).mono ?_; rw [hE]; rintro e w' ⟨rfl, hb⟩)
    go_ret
    exact ⟨rfl, hb⟩
/-- The number's place that a part asks for. -/
def needI (n p : Int) : Int := max 1 ((n * p + 1000 - 1) / 1000)
def kOf (L : List Int) (m : Int) : Nat := ((List.range 65).find? (fun k => decide (m ≤ cumL L (k + 1)))).getD 0
theorem kOf_spec {L : List Int} {m : Int} (hL : GoodL L) (h1 : 1 ≤ m) (h2 : m ≤ L.length) : kOf L m < 65 ∧ cumL L (kOf L m) < m ∧ m ≤ cumL L (kOf L m + 1) := by
  unfold kOf
  cases h : (List.range 65).find? (fun k => decide (m ≤ cumL L (k + 1))) with
  | none =>
    exfalso
    have := List.find?_eq_none.1 h 64 (by simp)
    rw [cumL_all hL] at this
    simp at this
    omega
  | some k =>
    have hk := List.find?_some h
    have hm := List.mem_of_find?_eq_some h
    simp only [Option.getD_some]
    refine ⟨by simpa using hm, ?_, by simpa using hk⟩
    rcases Nat.eq_zero_or_pos k with h0 | h0
    · subst h0; rw [cumL_zero]; omega
    · rw [List.find?_range_eq_some] at h
      have := h.2.2 (k - 1) (by omega)
      rw [show k - 1 + 1 = k by omega] at this
      simp at this
      omega
theorem needI_in {n p : Int} (n0 : 1 ≤ n) (p0 : 0 ≤ p) (p1 : p ≤ 1000) : 1 ≤ needI n p ∧ needI n p ≤ n := by
  unfold needI
  have h : n * p ≤ n * 1000 := Int.mul_le_mul_of_nonneg_left p1 (by omega)
  omega
def partI (L : List Int) (p : Int) : Int × Int × Bool := if L = [] ∨ p < 0 ∨ 1000 < p then (0, 0, false) else endsI (kOf L (needI L.length p) : Nat)
theorem part_L (b : Nat) (L : List Int) (p : Int) (w : World) (hA : HistAt w b (HsOf L)) (hL : GoodL L) (hl : L.length ≤ 1000000) :
    Calls Try.prog 16 #[.pointer (some ⟨b, 0, none⟩), .int .i64 p] w fun e w' => e = .returned (.tuple #[.int .u64 (partI L p).1, .int .u64 (partI L p).2.1, .bool (partI L p).2.2]) ∧ Below w.heap.size w w' := by
  unfold partI
  by_cases h : L = [] ∨ p < 0 ∨ 1000 < p
  · rw [if_pos h]
    exact part_none b L p w hA hL h
  · rw [if_neg h]
    simp only [not_or] at h
    have hp := List.length_pos_iff.2 h.1
    obtain ⟨n0, n1⟩ := needI_in (n := L.length) (p := p) (by omega) (by omega) (by omega)
    obtain ⟨k0, k1, k2⟩ := kOf_spec hL n0 n1
    exact part_some b L p w hA hL h.1 (by omega) (by omega) hl _ rfl _ k0 k1 k2
end Go.Proofs.Ytaihebdjhbnhoaa
