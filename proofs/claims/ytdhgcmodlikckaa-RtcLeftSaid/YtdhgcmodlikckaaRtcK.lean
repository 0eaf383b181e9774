/- Ticks in two calls are as in one; what Left says is so. -/
import Derived.Test.YtdhgcmodlikckaaRtcH
namespace Go.Proofs.Ytdhgcmodlikckaa
open Go.RowKit
set_option linter.unusedVariables false
set_option linter.unusedSimpArgs false

def St.tr (s : St) (n : Int) : St := s.raise (s.tick n)
theorem div_split (r n d : Int) (hd : 0 < d) : n / d + (r + n % d) / d = (r + n) / d ∧ (r + n % d) % d = (r + n) % d := by
  have h := Int.mul_ediv_add_emod n d
  have e : r + n = (r + n % d) + d * (n / d) := by omega
  rw [e, Int.add_mul_ediv_left _ _ (by omega), Int.add_mul_emod_self_left]
  exact ⟨by omega, rfl⟩
theorem St.tick_eq (s : St) (ok : s.ok) (n : Int) : s.tick n = { s with sec := addI s.sec ((s.rest + n) / s.div), rest := (s.rest + n) % s.div } := by
  have hd : 0 < s.div := by have := ok.r0; have := ok.r1; omega
  have h := div_split s.rest n s.div hd
  unfold St.tick
  rw [h.1, h.2]
theorem St.tr_eq (s : St) (ok : s.ok) (n : Int) : s.tr n = ⟨addI s.sec ((s.rest + n) / s.div), s.alarm, (s.rest + n) % s.div, s.set, s.en, s.ra || (!s.metB && (s.en && decide (s.alarm ≤ addI s.sec ((s.rest + n) / s.div)))), s.div⟩ := by
  unfold St.tr
  rw [St.tick_eq s ok n]
  unfold St.raise
  by_cases h : (St.metB { s with sec := addI s.sec ((s.rest + n) / s.div), rest := (s.rest + n) % s.div }) = true ∧ s.metB = false
  · rw [if_pos h]
    obtain ⟨h1, h2⟩ := h
    unfold St.metB at h1
    dsimp only at h1
    rw [h1, h2]
    simp
  · rw [if_neg h]
    have h' : (!s.metB && (s.en && decide (s.alarm ≤ addI s.sec ((s.rest + n) / s.div)))) = false := by
      cases hm : s.metB with
      | true => simp
      | false =>
        have : ¬ (St.metB { s with sec := addI s.sec ((s.rest + n) / s.div), rest := (s.rest + n) % s.div }) = true := fun h1 => h ⟨h1, hm⟩
        unfold St.metB at this
        simpa using this
    rw [h', Bool.or_false]
theorem St.tr_ok (s : St) (ok : s.ok) (n : Int) (n0 : 0 ≤ n) (n1 : n ≤ 18446744073709551615) : (s.tr n).ok := St.raise_ok s _ (St.tick_ok s ok n n0 n1)
theorem addI_two (x p q : Int) (hx : 0 ≤ x) (hp : 0 ≤ p) (hq : 0 ≤ q) : addI (addI x p) q = addI x (p + q) := by
  unfold addI
  split <;> split <;> split <;> omega
theorem addI_ge (x p : Int) (hp : 0 ≤ p) (h1 : x ≤ 18446744073709551615) : x ≤ addI x p := by
  unfold addI
  split <;> omega
theorem St.tr_tr (s : St) (ok : s.ok) (a b : Int) (a0 : 0 ≤ a) (a1 : a ≤ 18446744073709551615) (b0 : 0 ≤ b) : (s.tr a).tr b = s.tr (a + b) := by
  have hd : 0 < s.div := by have := ok.r0; have := ok.r1; omega
  have r0 := ok.r0
  rw [St.tr_eq _ (St.tr_ok s ok a a0 a1) b, St.tr_eq s ok a, St.tr_eq s ok (a + b)]
  dsimp only
  have h := div_split b (s.rest + a) s.div hd
  have q1 : 0 ≤ (s.rest + a) / s.div := Int.ediv_nonneg (by omega) (by omega)
  have m1 : 0 ≤ (s.rest + a) % s.div := Int.emod_nonneg _ (by omega)
  have q2 : 0 ≤ ((s.rest + a) % s.div + b) / s.div := Int.ediv_nonneg (by omega) (by omega)
  have e1 : (s.rest + a) / s.div + ((s.rest + a) % s.div + b) / s.div = (s.rest + (a + b)) / s.div := by
    rw [show s.rest + (a + b) = b + (s.rest + a) by omega, ← h.1, Int.add_comm b]
  have e2 : ((s.rest + a) % s.div + b) % s.div = (s.rest + (a + b)) % s.div := by
    rw [show s.rest + (a + b) = b + (s.rest + a) by omega, ← h.2, Int.add_comm b]
  have e3 := addI_two s.sec _ _ ok.s0 q1 q2
  rw [e1] at e3
  have g1 := addI_ge s.sec _ q1 ok.s1
  have X1 := addI_range s.sec _ ok.s0 q1
  have g2 := addI_ge (addI s.sec ((s.rest + a) / s.div)) _ q2 X1.2
  rw [e3] at g2
  rw [e3, e2]
  generalize addI s.sec ((s.rest + a) / s.div) = X at *
  generalize addI s.sec ((s.rest + (a + b)) / s.div) = Y at *
  congr 1
  unfold St.metB
  dsimp only
  cases s.en with
  | false => simp
  | true =>
    by_cases c0 : s.alarm ≤ s.sec
    · have c1 : s.alarm ≤ X := by omega
      simp [c0, c1]
    · by_cases c1 : s.alarm ≤ X
      · have c2 : s.alarm ≤ Y := by omega
        simp [c0, c1, c2]
      · simp [c0, c1]
theorem st28 (s : St) : s.store 28 1 = ({ s with ra := false }, 0) := by
  have h : s.store 28 1 = (s.raise { s with ra := s.ra && (1 : Int) % 2 == 0 }, 0) := rfl
  rw [h, show (s.ra && (1 : Int) % 2 == 0) = false by simp]
  unfold St.raise
  rw [if_neg]
  rintro ⟨h1, h2⟩
  have h3 : St.metB { s with ra := false } = s.metB := rfl
  rw [h3, h2] at h1
  exact absurd h1 (by simp)
theorem left_met (s : St) (h : s.metB = true) : s.left = 18446744073709551615 := by
  unfold St.metB at h
  unfold St.left
  rw [if_pos]
  right
  simp at h
  exact h.2
theorem line_met (s : St) (ok : s.ok) (a : Int) (h : s.metB = true) : (St.tr { s with ra := false } a).ra = false := by
  have ok' : St.ok { s with ra := false } := ⟨ok.s0, ok.s1, ok.a0, ok.a1, ok.r0, ok.r1, ok.t0, ok.t1, ok.d1⟩
  rw [St.tr_eq _ ok' a]
  have h3 : St.metB { s with ra := false } = s.metB := rfl
  dsimp only
  rw [h3, h]
  simp
/-- What stands when the alarm is ahead and near enough. -/
theorem left_near (s : St) (ok : s.ok) (h : s.metB = false) (hn : s.left ≠ 18446744073709551615) :
    1 ≤ s.left ∧ s.left ≤ 18446744073709551615 ∧
    St.tr { s with ra := false } (s.left - 1) = ⟨s.alarm - 1, s.alarm, s.div - 1, s.set, true, false, s.div⟩ ∧ (1 : Int) ≤ s.div ∧ 0 ≤ s.alarm - 1 := by
  have hd : 0 < s.div := by have := ok.r0; have := ok.r1; omega
  have r0 := ok.r0
  have r1 := ok.r1
  have ok' : St.ok { s with ra := false } := ⟨ok.s0, ok.s1, ok.a0, ok.a1, ok.r0, ok.r1, ok.t0, ok.t1, ok.d1⟩
  have hl : ¬ (s.en = false ∨ s.alarm ≤ s.sec) := by
    intro h1
    apply hn
    unfold St.left
    rw [if_pos h1]
  have hen : s.en = true := by cases he : s.en <;> simp_all
  have hgt : s.sec < s.alarm := by omega
  have hle : (s.alarm - s.sec) * s.div - s.rest ≤ 18446744073709551615 := by
    by_cases hc : (s.alarm - s.sec) * s.div - s.rest ≤ 18446744073709551615
    · exact hc
    · exfalso; apply hn; unfold St.left; rw [if_neg hl, if_neg hc]
  have hv : s.left = (s.alarm - s.sec) * s.div - s.rest := by unfold St.left; rw [if_neg hl, if_pos hle]
  have hge : s.div ≤ (s.alarm - s.sec) * s.div := by
    have h1 : 1 * s.div ≤ (s.alarm - s.sec) * s.div := Int.mul_le_mul_of_nonneg_right (by omega) (by omega)
    omega
  have e0 : s.rest + (s.left - 1) = (s.div - 1) + s.div * (s.alarm - s.sec - 1) := by
    rw [hv]
    have h1 : s.div * (s.alarm - s.sec - 1) = (s.alarm - s.sec) * s.div - s.div := by rw [Int.mul_sub, Int.mul_comm]; omega
    omega
  have d1 : (s.div - 1) / s.div = 0 := Int.ediv_eq_zero_of_lt (by omega) (by omega)
  have d2 : (s.div - 1) % s.div = s.div - 1 := Int.emod_eq_of_lt (by omega) (by omega)
  have e1 : (s.rest + (s.left - 1)) / s.div = s.alarm - s.sec - 1 := by rw [e0, Int.add_mul_ediv_left _ _ (by omega), d1]; omega
  have e2 : (s.rest + (s.left - 1)) % s.div = s.div - 1 := by rw [e0, Int.add_mul_emod_self_left, d2]
  have e3 : addI s.sec (s.alarm - s.sec - 1) = s.alarm - 1 := by
    have := ok.a1
    unfold addI
    rw [if_pos (by omega)]
    omega
  refine ⟨by omega, by omega, ?_, by omega, by have := ok.s0; omega⟩
  rw [St.tr_eq _ ok']
  dsimp only
  rw [e1, e2, e3, hen]
  have c : ¬ s.alarm ≤ s.alarm - 1 := by omega
  simp [c]
theorem last_facts (al l d : Int) (hd : 1 ≤ d) (h0 : 0 ≤ al - 1) (h1 : al ≤ 18446744073709551615) (ok : (⟨al - 1, al, d - 1, l, true, false, d⟩ : St).ok) :
    (⟨al - 1, al, d - 1, l, true, false, d⟩ : St).metB = false ∧ (⟨al - 1, al, d - 1, l, true, false, d⟩ : St).left = 1 ∧
    (⟨al - 1, al, d - 1, l, true, false, d⟩ : St).tr 1 = ⟨al, al, 0, l, true, true, d⟩ ∧ (⟨al, al, 0, l, true, true, d⟩ : St).metB = true := by
  have c : ¬ al ≤ al - 1 := by omega
  refine ⟨by simp [St.metB, c], ?_, ?_, by simp [St.metB]⟩
  · unfold St.left
    dsimp only
    have e : (al - (al - 1)) * d - (d - 1) = 1 := by rw [show al - (al - 1) = 1 by omega]; omega
    rw [if_neg (by simp [c]), e]
    simp
  · rw [St.tr_eq _ ok]
    dsimp only
    rw [show d - 1 + 1 = d by omega, Int.ediv_self (by omega), Int.emod_self]
    have e : addI (al - 1) 1 = al := by unfold addI; rw [if_pos (by omega)]; omega
    rw [e]
    simp [St.metB, c]
end Go.Proofs.Ytdhgcmodlikckaa
