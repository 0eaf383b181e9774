/- A histogram of a list of numbers: its sums and its buckets, in plain words. -/
import Derived.Test.YtaihebdjhbnhoaaHistE
namespace Go.Proofs.Ytaihebdjhbnhoaa
open Go.RowKit
set_option linter.unusedVariables false
set_option linter.unusedSimpArgs false

def GoodL (L : List Int) : Prop := ∀ x ∈ L, 0 ≤ x ∧ x ≤ 18446744073709551615
theorem GoodL.append {L M : List Int} (h : GoodL L) (k : GoodL M) : GoodL (L ++ M) := by
  intro x hx
  rcases List.mem_append.1 hx with hx | hx
  · exact h x hx
  · exact k x hx
theorem GoodL.take {L : List Int} (h : GoodL L) (n : Nat) : GoodL (L.take n) := fun x hx => h x (List.mem_of_mem_take hx)
theorem GoodL.get {L : List Int} (h : GoodL L) (n : Nat) (hn : n < L.length) : 0 ≤ L[n] ∧ L[n] ≤ 18446744073709551615 := h _ (List.getElem_mem hn)
def sumL : List Int → Int
  | [] => 0
  | x :: l => addI x (sumL l)
def minL : List Int → Int
  | [] => 0
  | x :: l => if l = [] then x else min x (minL l)
def maxL : List Int → Int
  | [] => 0
  | x :: l => if l = [] then x else max x (maxL l)
theorem sumL_in {L : List Int} (h : GoodL L) : 0 ≤ sumL L ∧ sumL L ≤ 18446744073709551615 := by
  induction L with
  | nil => simp [sumL]
  | cons x l ih =>
    have h1 := ih (fun y hy => h y (List.mem_cons_of_mem _ hy))
    have h2 := h x List.mem_cons_self
    simp only [sumL, addI]
    split <;> omega
theorem sumL_append {L M : List Int} (h : GoodL L) (k : GoodL M) : sumL (L ++ M) = addI (sumL L) (sumL M) := by
  induction L with
  | nil =>
    have := sumL_in k
    simp only [List.nil_append]
    rw [show sumL [] = 0 from rfl, addI, if_pos (by omega)]
    omega
  | cons x l ih =>
    have h1 := ih (fun y hy => h y (List.mem_cons_of_mem _ hy))
    have h2 := h x List.mem_cons_self
    have h3 := sumL_in k
    have h4 := sumL_in (L := l) (fun y hy => h y (List.mem_cons_of_mem _ hy))
    simp only [List.cons_append, sumL, h1, addI]
    repeat' split
    all_goals omega
theorem minL_append {L M : List Int} (hL : L ≠ []) (hM : M ≠ []) : minL (L ++ M) = min (minL L) (minL M) := by
  induction L with
  | nil => exact absurd rfl hL
  | cons x l ih =>
    by_cases hl : l = []
    · subst hl
      simp [minL, hM]
    · simp only [List.cons_append, minL, ih hl]
      simp [hl]
      try omega
theorem maxL_append {L M : List Int} (hL : L ≠ []) (hM : M ≠ []) : maxL (L ++ M) = max (maxL L) (maxL M) := by
  induction L with
  | nil => exact absurd rfl hL
  | cons x l ih =>
    by_cases hl : l = []
    · subst hl
      simp [maxL, hM]
    · simp only [List.cons_append, maxL, ih hl]
      simp [hl]
      try omega
theorem minL_mem {L : List Int} (h : L ≠ []) : minL L ∈ L := by
  induction L with
  | nil => exact absurd rfl h
  | cons x l ih =>
    by_cases hl : l = []
    · simp [minL, hl]
    · simp only [minL, hl, if_false]
      rcases Int.le_total x (minL l) with q | q
      · rw [Int.min_eq_left q]; exact List.mem_cons_self
      · rw [Int.min_eq_right q]; exact List.mem_cons_of_mem _ (ih hl)
theorem maxL_mem {L : List Int} (h : L ≠ []) : maxL L ∈ L := by
  induction L with
  | nil => exact absurd rfl h
  | cons x l ih =>
    by_cases hl : l = []
    · simp [maxL, hl]
    · simp only [maxL, hl, if_false]
      rcases Int.le_total x (maxL l) with q | q
      · rw [Int.max_eq_right q]; exact List.mem_cons_of_mem _ (ih hl)
      · rw [Int.max_eq_left q]; exact List.mem_cons_self
theorem minL_le {L : List Int} {x : Int} (h : x ∈ L) : minL L ≤ x := by
  induction L with
  | nil => cases h
  | cons y l ih =>
    by_cases hl : l = []
    · subst hl
      simp at h
      simp [minL, h]
    · simp only [minL, hl, if_false]
      rcases List.mem_cons.1 h with rfl | h
      · omega
      · have := ih h
        omega
theorem le_maxL {L : List Int} {x : Int} (h : x ∈ L) : x ≤ maxL L := by
  induction L with
  | nil => cases h
  | cons y l ih =>
    by_cases hl : l = []
    · subst hl
      simp at h
      simp [maxL, h]
    · simp only [maxL, hl, if_false]
      rcases List.mem_cons.1 h with rfl | h
      · omega
      · have := ih h
        omega
/-- The sums of a list of numbers. -/
def sumsL (L : List Int) : Sums := ⟨L.length, sumL L, minL L, maxL L⟩
theorem sumsL_join {L M : List Int} (h : GoodL L) (k : GoodL M) : Sums.join (sumsL L) (sumsL M) = sumsL (L ++ M) := by
  unfold Sums.join
  by_cases hM : M = []
  · subst hM
    simp [sumsL]
  · have h1 : (sumsL M).count ≠ 0 := by
      simp only [sumsL]
      have := List.length_pos_iff.2 hM
      omega
    rw [if_neg h1]
    by_cases hL : L = []
    · subst hL
      simp [sumsL]
    · have h2 : (sumsL L).count ≠ 0 := by
        simp only [sumsL]
        have := List.length_pos_iff.2 hL
        omega
      rw [if_neg h2]
      simp only [sumsL, sumL_append h k, minL_append hL hM, maxL_append hL hM]
      simp
theorem sumsL_one (n : Int) (h : 0 ≤ n ∧ n ≤ 18446744073709551615) : (⟨1, n, n, n⟩ : Sums) = sumsL [n] := by
  have e : sumL [n] = n := by
    show addI n 0 = n
    rw [addI, if_pos (by omega)]
    omega
  unfold sumsL
  rw [e]
  rfl
/-- How many numbers of a list are in a bucket. -/
def cntL (L : List Int) (k : Nat) : Int := (L.countP (fun x => Lib.bitLen x.toNat == k) : Nat)
theorem cntL_in (L : List Int) (k : Nat) : 0 ≤ cntL L k ∧ cntL L k ≤ L.length := by
  have := List.countP_le_length (p := fun x : Int => Lib.bitLen x.toNat == k) (l := L)
  unfold cntL
  omega
theorem cntL_append (L M : List Int) (k : Nat) : cntL (L ++ M) k = cntL L k + cntL M k := by
  unfold cntL
  rw [List.countP_append]
  omega
def bucketsL (L : List Int) : List Int := (List.range 65).map (cntL L)
theorem bucketsL_length (L : List Int) : (bucketsL L).length = 65 := by simp [bucketsL]
theorem bucketsL_get (L : List Int) {k : Nat} (hk : k < 65) : (bucketsL L)[k]? = some (cntL L k) := by simp [bucketsL, hk]
/-- The histogram of a list of numbers. -/
def HsOf (L : List Int) : Hs := ⟨sumsL L, bucketsL L⟩
theorem HsOf_nil : HsOf [] = Hs.none := by
  unfold HsOf Hs.none
  rw [Hs.mk.injEq]
  refine ⟨rfl, ?_⟩
  decide +kernel
theorem bitLen_lt65 (x : Int) (h0 : 0 ≤ x) (h1 : x ≤ 18446744073709551615) : Lib.bitLen x.toNat < 65 := by
  have := Lib.bitLen_le x.toNat 64 (by decide) (by omega)
  omega
theorem buckets_snoc (L : List Int) (n : Int) (h : 0 ≤ n ∧ n ≤ 18446744073709551615) :
    (bucketsL L).set (Lib.bitLen n.toNat) (cntL L (Lib.bitLen n.toNat) + 1) = bucketsL (L ++ [n]) := by
  have hk := bitLen_lt65 n h.1 h.2
  apply List.ext_getElem?
  intro i
  rw [List.getElem?_set]
  rcases Nat.lt_or_ge i 65 with hi | hi
  · rw [bucketsL_get _ hi, bucketsL_get _ hi, cntL_append, bucketsL_length]
    by_cases e : Lib.bitLen n.toNat = i
    · subst e
      simp [cntL, hk]
    · simp [cntL, e]
  · rw [List.getElem?_eq_none (by rw [bucketsL_length]; omega), List.getElem?_eq_none (by rw [bucketsL_length]; omega)]
    rw [if_neg (by omega)]
theorem HsOf_live {L : List Int} (h : GoodL L) : (bucketsL L == List.replicate 65 0) = decide (L = []) := by
  cases L with
  | nil => rw [show bucketsL [] = List.replicate 65 0 from by have := congrArg Hs.n HsOf_nil; exact this]; simp
  | cons x l =>
    have hx := h x List.mem_cons_self
    have hk := bitLen_lt65 x hx.1 hx.2
    simp only [List.cons_ne_nil, decide_false]
    apply Bool.eq_false_iff.2
    intro e
    have e2 : bucketsL (x :: l) = List.replicate 65 0 := by simpa using e
    have e3 := bucketsL_get (x :: l) hk
    rw [e2] at e3
    simp only [List.getElem?_replicate, hk, if_true, Option.some.injEq] at e3
    have := cntL_append [x] l (Lib.bitLen x.toNat)
    have h2 := (cntL_in l (Lib.bitLen x.toNat)).1
    have h3 : cntL [x] (Lib.bitLen x.toNat) = 1 := by simp [cntL]
    simp only [List.singleton_append] at this
    omega
theorem HsOf_sums {L : List Int} (h : GoodL L) : (HsOf L).sums = sumsL L := by
  unfold Hs.sums
  show (if (bucketsL L == List.replicate 65 0) then _ else _) = _
  rw [HsOf_live h]
  by_cases e : L = []
  · subst e
    rfl
  · simp [e, HsOf]
theorem HsOf_len (L : List Int) : (HsOf L).n.length = 65 := bucketsL_length L
end Go.Proofs.Ytaihebdjhbnhoaa
