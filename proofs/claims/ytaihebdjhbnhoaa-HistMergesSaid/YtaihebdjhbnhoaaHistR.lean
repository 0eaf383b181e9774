/- The document's Part, and what a histogram and sorted numbers have in common. -/
import Derived.Test.YtaihebdjhbnhoaaHistQ
namespace Go.Proofs.Ytaihebdjhbnhoaa
open Go.RowKit
set_option linter.unusedVariables false
set_option linter.unusedSimpArgs false

theorem sorted_le {l : List Int} (h : l.Pairwise (· ≤ ·)) {i j : Nat} (hij : i ≤ j) (hj : j < l.length) : l[i] ≤ l[j] := by
  rcases Nat.lt_or_ge i j with q | q
  · exact List.pairwise_iff_getElem.1 h i j (by omega) hj q
  · have : i = j := by omega
    subst this
    exact Int.le_refl _
theorem cumL_perm {L l : List Int} (h : L.Perm l) (k : Nat) : cumL L k = cumL l k := by
  unfold cumL
  rw [h.countP_eq]
theorem GoodL.perm {L l : List Int} (h : GoodL L) (hp : L.Perm l) : GoodL l := fun x hx => h x (hp.mem_iff.2 hx)
theorem kOf_sorted {L l : List Int} (hL : GoodL L) (hp : L.Perm l) (hs : l.Pairwise (· ≤ ·)) {m : Nat} (h1 : 1 ≤ m) (h2 : m ≤ l.length) : kOf L (m : Int) = Lib.bitLen (l[m - 1]'(by omega)).toNat := by
  have hl := hL.perm hp
  have hlen := hp.length_eq
  have hm := hl.get (m - 1) (by omega)
  refine kOf_unique hL (by omega) (by omega) ?_ ?_
  · rw [cumL_perm hp]
    unfold cumL
    have e : l = l.take (m - 1) ++ l.drop (m - 1) := (List.take_append_drop _ _).symm
    have h0 : (l.drop (m - 1)).countP (fun x => decide (Lib.bitLen x.toNat < Lib.bitLen (l[m - 1]'(by omega)).toNat)) = 0 := by
      rw [List.countP_eq_zero]
      intro x hx
      obtain ⟨i, hi, rfl⟩ := List.mem_iff_getElem.1 hx
      rw [List.getElem_drop]
      simp only [List.length_drop] at hi
      have q1 := sorted_le hs (i := m - 1) (j := m - 1 + i) (by omega) (by omega)
      have q2 := hl.get (m - 1 + i) (by omega)
      have := bitLen_mono (x := (l[m - 1]'(by omega)).toNat) (y := (l[m - 1 + i]'(by omega)).toNat) (by omega) (by omega)
      simp
      omega
    have h3 := List.countP_le_length (p := fun x : Int => decide (Lib.bitLen x.toNat < Lib.bitLen (l[m - 1]'(by omega)).toNat)) (l := l.take (m - 1))
    have h4 := List.countP_append (p := fun x : Int => decide (Lib.bitLen x.toNat < Lib.bitLen (l[m - 1]'(by omega)).toNat)) (l₁ := l.take (m - 1)) (l₂ := l.drop (m - 1))
    rw [← e, h0] at h4
    simp only [List.length_take] at h3
    omega
  · rw [cumL_perm hp]
    unfold cumL
    have h3 : (l.take m).countP (fun x => decide (Lib.bitLen x.toNat < Lib.bitLen (l[m - 1]'(by omega)).toNat + 1)) = m := by
      rw [List.countP_eq_length.2]
      · simp; omega
      · intro x hx
        obtain ⟨i, hi, rfl⟩ := List.mem_iff_getElem.1 hx
        rw [List.getElem_take]
        simp only [List.length_take] at hi
        have q1 := sorted_le hs (i := i) (j := m - 1) (by omega) (by omega)
        have q2 := hl.get i (by omega)
        have := bitLen_mono (x := (l[i]'(by omega)).toNat) (y := (l[m - 1]'(by omega)).toNat) (by omega) (by omega)
        simp
        omega
    have h4 := List.countP_append (p := fun x : Int => decide (Lib.bitLen x.toNat < Lib.bitLen (l[m - 1]'(by omega)).toNat + 1)) (l₁ := l.take m) (l₂ := l.drop m)
    rw [List.take_append_drop, h3] at h4
    omega
theorem sumL_eq {L : List Int} (h : GoodL L) : 0 ≤ L.sum ∧ sumL L = min L.sum 18446744073709551615 := by
  induction L with
  | nil => exact ⟨by simp, by decide⟩
  | cons x l ih =>
    obtain ⟨h1, h2⟩ := ih (fun y hy => h y (List.mem_cons_of_mem _ hy))
    have h3 := h x List.mem_cons_self
    simp only [List.sum_cons, sumL, h2, addI]
    refine ⟨by omega, ?_⟩
    split <;> omega
theorem perm_sum {L l : List Int} (h : L.Perm l) : L.sum = l.sum := by
  induction h with
  | nil => rfl
  | cons x _ ih => simp [ih]
  | swap x y l => simp only [List.sum_cons]; omega
  | trans _ _ h1 h2 => exact h1.trans h2
theorem sumL_perm {L l : List Int} (h : GoodL L) (hp : L.Perm l) : sumL L = sumL l := by
  rw [(sumL_eq h).2, (sumL_eq (h.perm hp)).2, perm_sum hp]
theorem minL_sorted {L l : List Int} (hp : L.Perm l) (hs : l.Pairwise (· ≤ ·)) (hn : 0 < l.length) : minL L = l[0] := by
  have hL : L ≠ [] := by intro h; subst h; have := hp.length_eq; simp at this; omega
  have h1 := minL_mem hL
  have h2 := hp.mem_iff.1 h1
  obtain ⟨i, hi, he⟩ := List.mem_iff_getElem.1 h2
  have q1 := sorted_le hs (i := 0) (j := i) (by omega) hi
  have q2 := minL_le (hp.mem_iff.2 (List.getElem_mem hn))
  omega
theorem maxL_sorted {L l : List Int} (hp : L.Perm l) (hs : l.Pairwise (· ≤ ·)) (hn : 0 < l.length) : maxL L = l[l.length - 1]'(by omega) := by
  have hL : L ≠ [] := by intro h; subst h; have := hp.length_eq; simp at this; omega
  have h1 := maxL_mem hL
  have h2 := hp.mem_iff.1 h1
  obtain ⟨i, hi, he⟩ := List.mem_iff_getElem.1 h2
  have q1 := sorted_le hs (i := i) (j := l.length - 1) (by omega) (by omega)
  have q2 := le_maxL (hp.mem_iff.2 (List.getElem_mem (show l.length - 1 < l.length by omega)))
  omega
/-- How many of a list are in a bucket, told by any number. -/
def rcount (l : List Int) (k : Int) : Int := (l.countP (fun x => ((Lib.bitLen x.toNat : Int) == k)) : Nat)
theorem rcount_in (l : List Int) (k : Int) : 0 ≤ rcount l k ∧ rcount l k ≤ l.length := by
  have := List.countP_le_length (p := fun x : Int => ((Lib.bitLen x.toNat : Int) == k)) (l := l)
  unfold rcount
  omega
theorem rcount_snoc (l : List Int) (x k : Int) : rcount (l ++ [x]) k = rcount l k + if (Lib.bitLen x.toNat : Int) = k then 1 else 0 := by
  unfold rcount
  rw [List.countP_append]
  by_cases h : (Lib.bitLen x.toNat : Int) = k
  · simp [h]
  · simp [h]
theorem bucket_rcount {L l : List Int} (hL : GoodL L) (hp : L.Perm l) (k : Int) : bucketI L k = rcount l k := by
  unfold bucketI
  by_cases h : 0 ≤ k ∧ k < 65
  · rw [if_pos h]
    unfold cntL rcount
    rw [hp.countP_eq]
    congr 1
    apply List.countP_congr
    intro x _
    simp
    omega
  · rw [if_neg h]
    unfold rcount
    rw [List.countP_eq_zero.2]
    · rfl
    · intro x hx
      have := hL x (hp.mem_iff.2 hx)
      have := bitLen_lt65 x this.1 this.2
      simp
      omega
theorem partI_sorted {L l : List Int} (hL : GoodL L) (hp : L.Perm l) (hs : l.Pairwise (· ≤ ·)) {p : Int} (hn : 0 < l.length) (p0 : 0 ≤ p) (p1 : p ≤ 1000) {m : Nat} (hm : (m : Int) = needI l.length p) (h1 : 1 ≤ m) (h2 : m ≤ l.length) (hi : m - 1 < l.length) :
    partI L p = endsI ((Lib.bitLen (l[m - 1]'hi).toNat : Nat) : Int) := by
  have hL2 : L ≠ [] := by intro h; subst h; have := hp.length_eq; simp at this; omega
  unfold partI
  rw [if_neg (by rintro (h | h | h) <;> first | exact hL2 h | omega), hp.length_eq, ← hm, kOf_sorted hL hp hs h1 h2]
set_option maxHeartbeats 8000000 in
set_option maxRecDepth 100000 in
theorem rPart_any (v : Value) (L l : List Int) (p : Int) (w : World) (ok : Nat → Prop) (hv : Lst .u64 w v l ok) (hl : l.length ≤ 1000000) (hL : GoodL L) (hp : L.Perm l) (hs : l.Pairwise (· ≤ ·)) (p0 : -9223372036854775808 ≤ p) (p1 : p ≤ 9223372036854775807) :
    Calls Try.prog 50 #[v, .int .i64 p] w fun e w' => e = .returned (.tuple #[.int .u64 (partI L p).1, .int .u64 (partI L p).2.1, .bool (partI L p).2.2]) ∧ w = w' := by
  obtain ⟨a, cap, rfl, hc1, hc2, hcell⟩ := hv
  unfold maxLen at hc2
  have l0 : (l.length : Int) ≤ 1000000 := by omega
  by_cases hbad : l.length = 0 ∨ p < 0 ∨ 1000 < p
  · have hE : partI L p = (0, 0, false) := by
      unfold partI
      rw [if_pos]
      rcases hbad with h | h | h
      · exact Or.inl (List.eq_nil_of_length_eq_zero (by rw [hp.length_eq]; exact h))
      · exact Or.inr (Or.inl h)
      · exact Or.inr (Or.inr h)
    rw [hE]
    clear hE hcell hL hp hs
    by_cases h0 : l.length = 0
    · have g0 : ((l.length : Int) == 0) = true := beq_t (by omega)
      have g00 : (l.length == 0) = true := beq_t (by omega)
      clear hbad h0
      go_enter Try.func50, Try.ntmps50
      go_wp2_with fail
      go_ret3
      exact ⟨rfl, rfl⟩
    · have g0 : ((l.length : Int) == 0) = false := beq_f (by omega)
      have g00 : (l.length == 0) = false := beq_f (by omega)
      by_cases h1 : p < 0
      · have g1 : decide (p < 0) = true := by simpa using h1
        clear hbad h0
        go_enter Try.func50, Try.ntmps50
        go_wp2_with fail
        go_ret3
        exact ⟨rfl, rfl⟩
      · have g1 : decide (p < 0) = false := by simpa using h1
        have g2 : decide (1000 < p) = true := by simp; omega
        clear hbad h0
        go_enter Try.func50, Try.ntmps50
        go_wp2_with fail
        go_ret3
        exact ⟨rfl, rfl⟩
  · have hn : 0 < l.length := by omega
    obtain ⟨q, rfl, hq, _, hcl⟩ := hcell hn
    have HC := Lib.hid hcl
    have HS := Lib.hid hs
    have HP := Lib.hid hp
    have HL := Lib.hid hL
    have HLl := Lib.hid (hL.perm hp)
    have g0 : ((l.length : Int) == 0) = false := beq_f (by omega)
    have g00 : (l.length == 0) = false := beq_f (by omega)
    have g1 : decide (p < 0) = false := by simp; omega
    have g2 : decide (1000 < p) = false := by simp; omega
    have q0 : 0 ≤ p := by omega
    have q1 : p ≤ 1000 := by omega
    have m0 : (0 : Int) ≤ (l.length : Int) * p := Int.mul_nonneg (by omega) q0
    have m1 : (l.length : Int) * p ≤ 1000000000 := by
      have := Int.mul_le_mul l0 q1 q0 (by omega)
      omega
    have m2 : (l.length : Int) * p ≤ (l.length : Int) * 1000 := Int.mul_le_mul_of_nonneg_left q1 (by omega)
    have HN : Hid (needI l.length p = max 1 (((l.length : Int) * p + 1000 - 1) / 1000)) := rfl
    have n1 : (1 : Int) ≤ l.length := by omega
    clear hbad hcell hcl hs hp hL hn
    go_enter Try.func50, Try.ntmps50
    go_wp2_with fail
    go_loop [7] (fun i => ∃ j : Nat, 1 ≤ j ∧ (j : Int) ≤ needI l.length p ∧ j ≤ l.length ∧ i = .int .i64 (j : Int)) (fun i => l.length - (intOf i).toNat)
    case atStart => exact ⟨1, by omega, by rw [HN.out]; omega, by omega, rfl⟩
    case round =>
      obtain ⟨j, j1, j2, j3, rfl⟩ := hrel
      have HJ := Lib.hid j2
      by_cases hlt : j < l.length ∧ 1000 * (j : Int) < (l.length : Int) * p
      · obtain ⟨t1, t2⟩ := hlt
        have g3 : decide ((j : Int) < (l.length : Int)) = true := by simp; omega
        have g4 : decide (1000 * (j : Int) < (l.length : Int) * p) = true := by simpa using t2
        have hnx : Hid ((j : Int) + 1 ≤ needI l.length p) := by show _ ≤ _; rw [HN.out]; omega
        clear j2
        go_wp2_with fail
        go_round
        case measure => simp [intOf]; omega
        case rel => exact ⟨j + 1, by omega, by have := hnx.out; omega, by omega, by simp⟩
      · have hend : (j : Int) = needI l.length p := by
          rw [HN.out] at j2 ⊢
          by_cases t1 : j < l.length
          · have t2 : ¬ 1000 * (j : Int) < (l.length : Int) * p := fun h => hlt ⟨t1, h⟩
            omega
          · omega
        have hji : j - 1 < l.length := by omega
        have hE := partI_sorted HL.out HP.out HS.out (p := p) (by omega) q0 q1 hend j1 j3 hji
        have HE := Lib.hid hE
        have c0 := HC.out (j - 1) hji
        obtain ⟨x0, x1⟩ := HLl.out.get (j - 1) hji
        have hb := bitLen_lt65 _ x0 x1
        have ej : ((j - 1 : Nat) : Int) = (j : Int) - 1 := by omega
        have EJ := Lib.hid ej
        clear hE hend j2 ej
        by_cases t1 : j < l.length
        · have g3 : decide ((j : Int) < (l.length : Int)) = true := by simp; omega
          have g4 : decide (1000 * (j : Int) < (l.length : Int) * p) = false := by
            have : ¬ 1000 * (j : Int) < (l.length : Int) * p := fun h => hlt ⟨t1, h⟩
            simpa using this
          clear hlt
          go_wp2_with (first | (go_at_call 49; refine (rOf_any _ _ x0 x1).mono ?_; rintro e w' ⟨rfl, rfl⟩) | (go_at_call 66; refine (rEnds_any _ _ hb).mono ?_; rintro e w' ⟨rfl, rfl⟩))
          go_ret3
          exact ⟨by rw [HE.out]; rfl, rfl⟩
        · have g3 : decide ((j : Int) < (l.length : Int)) = false := by simp; omega
          clear hlt
          go_wp2_with (first | (go_at_call 49; refine (rOf_any _ _ x0 x1).mono ?_; rintro e w' ⟨rfl, rfl⟩) | (go_at_call 66; refine (rEnds_any _ _ hb).mono ?_; rintro e w' ⟨rfl, rfl⟩))
          go_ret3
          exact ⟨by rw [HE.out]; rfl, rfl⟩
end Go.Proofs.Ytaihebdjhbnhoaa
