/- Parts of a histogram: the walk of the law HistParts. -/
import Derived.Test.YtaihebdjhbnhoaaHistM
namespace Go.Proofs.Ytaihebdjhbnhoaa
open Go.RowKit
set_option linter.unusedVariables false
set_option linter.unusedSimpArgs false

theorem kOf_mono {L : List Int} (hL : GoodL L) {m m' : Int} (h1 : 1 ≤ m) (h : m ≤ m') (h2 : m' ≤ L.length) : kOf L m ≤ kOf L m' := by
  obtain ⟨a1, a2, a3⟩ := kOf_spec hL h1 (by omega)
  obtain ⟨b1, b2, b3⟩ := kOf_spec hL (m := m') (by omega) h2
  rcases Nat.lt_or_ge (kOf L m') (kOf L m) with q | q
  · have := cumL_mono L (show kOf L m' + 1 ≤ kOf L m by omega)
    omega
  · exact q
theorem kOf_unique {L : List Int} (hL : GoodL L) {m : Int} (h1 : 1 ≤ m) (h2 : m ≤ L.length) {k : Nat} (c1 : cumL L k < m) (c2 : m ≤ cumL L (k + 1)) : kOf L m = k := by
  obtain ⟨a1, a2, a3⟩ := kOf_spec hL h1 h2
  rcases Nat.lt_trichotomy (kOf L m) k with q | q | q
  · have := cumL_mono L (show kOf L m + 1 ≤ k by omega); omega
  · exact q
  · have := cumL_mono L (show k + 1 ≤ kOf L m by omega); omega
theorem bitLen_mono {x y : Nat} (h : x ≤ y) (hy : y < 2 ^ 64) : Lib.bitLen x ≤ Lib.bitLen y := by
  have hk := Lib.bitLen_le y 64 (by decide) hy
  rw [bitLen_lt_iff hk (by omega)]
  have := (bitLen_lt_iff (x := y) hk hy).1 (Nat.le_refl _)
  omega
theorem cumL_lt_iff {L : List Int} {k : Nat} : 1 ≤ cumL L k ↔ ∃ x ∈ L, Lib.bitLen x.toNat < k := by
  unfold cumL
  have := List.countP_pos_iff (l := L) (p := fun x : Int => decide (Lib.bitLen x.toNat < k))
  constructor
  · intro h
    obtain ⟨x, hx, hp⟩ := this.1 (by omega)
    exact ⟨x, hx, by simpa using hp⟩
  · rintro ⟨x, hx, hp⟩
    have := this.2 ⟨x, hx, by simpa using hp⟩
    omega
theorem kOf_least {L : List Int} (hL : GoodL L) (hn : L ≠ []) : kOf L 1 = Lib.bitLen (minL L).toNat := by
  have hp := List.length_pos_iff.2 hn
  have hm := minL_mem hn
  refine kOf_unique hL (by omega) (by omega) ?_ ?_
  · rcases Int.lt_or_le (cumL L (Lib.bitLen (minL L).toNat)) 1 with q | q
    · exact q
    · exfalso
      obtain ⟨x, hx, hlt⟩ := cumL_lt_iff.1 q
      have h1 := minL_le hx
      have h2 := hL x hx
      have := bitLen_mono (x := (minL L).toNat) (y := x.toNat) (by omega) (by omega)
      omega
  · exact cumL_lt_iff.2 ⟨_, hm, by omega⟩
theorem cumL_lt_len {L : List Int} {k : Nat} : cumL L k < L.length ↔ ∃ x ∈ L, k ≤ Lib.bitLen x.toNat := by
  induction L with
  | nil => simp [cumL]
  | cons y l ih =>
    have hle := (cumL_in l k).2
    by_cases h : Lib.bitLen y.toNat < k
    · have e : cumL (y :: l) k = cumL l k + 1 := by unfold cumL; rw [List.countP_cons]; simp [h]
      rw [e]
      simp only [List.length_cons]
      constructor
      · intro q
        obtain ⟨x, hx, hk⟩ := ih.1 (by omega)
        exact ⟨x, List.mem_cons_of_mem _ hx, hk⟩
      · rintro ⟨x, hx, hk⟩
        rcases List.mem_cons.1 hx with rfl | hx
        · omega
        · have := ih.2 ⟨x, hx, hk⟩; omega
    · have e : cumL (y :: l) k = cumL l k := by unfold cumL; rw [List.countP_cons]; simp [h]
      rw [e]
      simp only [List.length_cons]
      constructor
      · intro q
        exact ⟨y, List.mem_cons_self, by omega⟩
      · intro _
        omega
theorem kOf_most {L : List Int} (hL : GoodL L) (hn : L ≠ []) : kOf L (L.length : Int) = Lib.bitLen (maxL L).toNat := by
  have hp := List.length_pos_iff.2 hn
  have hm := maxL_mem hn
  refine kOf_unique hL (by omega) (by omega) ?_ ?_
  · exact cumL_lt_len.2 ⟨_, hm, Nat.le_refl _⟩
  · rcases Int.lt_or_le (cumL L (Lib.bitLen (maxL L).toNat + 1)) L.length with q | q
    · exfalso
      obtain ⟨x, hx, hlt⟩ := cumL_lt_len.1 q
      have h1 := le_maxL hx
      have h2 := hL _ hm
      have h3 := hL x hx
      have := bitLen_mono (x := x.toNat) (y := (maxL L).toNat) (by omega) (by omega)
      omega
    · exact q
theorem ends_mono {j k : Nat} {A B A' B' : Int} (h : EndsOk j A B) (h' : EndsOk k A' B') (hjk : j ≤ k) : A ≤ A' := by
  rcases Int.lt_or_le A' A with q | q
  · exfalso
    have h1 := h'.oa
    have h2 := h.oa
    have h3 := h'.a0
    have h4 := h.a0
    have h5 := h.ab
    have h6 := h.b1
    have h7 := bitLen_mono (x := A'.toNat) (y := A.toNat) (by omega) (by omega)
    have : j = k := by omega
    subst this
    have := (h.mem A' h3 (by omega)).2 h1
    omega
  · exact q
/-- All that HistParts asks of a list that is not empty. -/
theorem parts_plain {L : List Int} (hL : GoodL L) (hn : L ≠ []) {p q : Int} (p0 : 0 ≤ p) (pq : p ≤ q) (q1 : q ≤ 1000) :
    ∃ x x2 u y k1 k2 k3 k4, partI L p = (x, x2, true) ∧ partI L q = (u, y, true) ∧ partI L 0 = (k1, k2, true) ∧ partI L 1000 = (k3, k4, true) ∧ x ≤ y ∧ x ≤ u ∧ k1 ≤ minL L ∧ minL L ≤ k2 ∧ k3 ≤ maxL L ∧ maxL L ≤ k4 := by
  have hp := List.length_pos_iff.2 hn
  have ex : ∀ r, 0 ≤ r → r ≤ 1000 → ∃ A B, partI L r = (A, B, true) ∧ EndsOk (kOf L (needI L.length r)) A B := by
    intro r r0 r1
    obtain ⟨n0, n1⟩ := needI_in (n := L.length) (p := r) (by omega) r0 r1
    obtain ⟨k0, _, _⟩ := kOf_spec hL n0 n1
    obtain ⟨A, B, hE, ok⟩ := ends_ok _ k0
    refine ⟨A, B, ?_, ok⟩
    unfold partI
    rw [if_neg (by rintro (h | h | h) <;> first | exact hn h | omega)]
    exact hE
  obtain ⟨x, x2, e1, o1⟩ := ex p p0 (by omega)
  obtain ⟨u, y, e2, o2⟩ := ex q (by omega) q1
  obtain ⟨k1, k2, e3, o3⟩ := ex 0 (by omega) (by omega)
  obtain ⟨k3, k4, e4, o4⟩ := ex 1000 (by omega) (by omega)
  have n0 : needI L.length 0 = 1 := by unfold needI; omega
  have n1 : needI L.length 1000 = L.length := by unfold needI; omega
  rw [n0, kOf_least hL hn] at o3
  rw [n1, kOf_most hL hn] at o4
  obtain ⟨a0, a1⟩ := needI_in (n := L.length) (p := p) (by omega) p0 (by omega)
  obtain ⟨b0, b1⟩ := needI_in (n := L.length) (p := q) (by omega) (by omega) q1
  have hmn : needI L.length p ≤ needI L.length q := by
    unfold needI
    have : (L.length : Int) * p ≤ L.length * q := Int.mul_le_mul_of_nonneg_left pq (by omega)
    omega
  have hk := kOf_mono hL a0 hmn b1
  have hxu := ends_mono o1 o2 hk
  have hmin := hL _ (minL_mem hn)
  have hmax := hL _ (maxL_mem hn)
  have m3 := (o3.mem _ hmin.1 hmin.2).2 rfl
  have m4 := (o4.mem _ hmax.1 hmax.2).2 rfl
  exact ⟨x, x2, u, y, k1, k2, k3, k4, e1, e2, e3, e4, by have := o2.ab; omega, hxu, m3.1, m3.2, m4.1, m4.2⟩
end Go.Proofs.Ytaihebdjhbnhoaa
