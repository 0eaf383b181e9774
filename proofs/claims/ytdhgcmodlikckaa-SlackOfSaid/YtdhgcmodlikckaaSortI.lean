/- slices.Sort of whole numbers. -/
import Derived.Test.YtdhgcmodlikckaaGrowB
import Derived.Test.YtdhgcmodlikckaaProg
import Derived.Shelf.SortM.Plain
import Derived.Shelf.SortM.SortNone
import Derived.Shelf.Lay
import Derived.Ground.SlgmProg
namespace Go.Proofs.Ytdhgcmodlikckaa
open Go.RowKit
set_option linter.unusedVariables false
set_option linter.unusedSimpArgs false
open Go.Shelf Go.Lib Go.Sort
shelf_lay_g SlLaysM.n5 Slgm 5 at Try 59 as Try.sortI
/-- A slice that holds these numbers. -/
def IntsAt (w : World) (base : Nat) (s : Value) (S : List Int) : Prop :=
  ∃ a cap, s = .slice a S.length cap ∧ (0 < S.length → ∃ g, a = some ⟨g, 0, none⟩ ∧ base ≤ g ∧ g < w.heap.size ∧ ∀ i x, S[i]? = some x → w.cell? ⟨g, i, none⟩ = some (.int .i64 x))
theorem IntsAt.only {w w' : World} {base : Nat} {s : Value} {S : List Int} {B : Nat → Prop} (h : IntsAt w base s S) (ho : Only B w w') (hs : ∀ g, base ≤ g → g < w.heap.size → ¬ B g) : IntsAt w' base s S := by
  obtain ⟨a, cap, e, k⟩ := h
  refine ⟨a, cap, e, fun h0 => ?_⟩
  obtain ⟨g, e2, h1, h2, h3⟩ := k h0
  exact ⟨g, e2, h1, Nat.lt_of_lt_of_le h2 ho.size, fun i x hx => cell_only (h3 i x hx) ho (hs g h1 h2)⟩
def sorted (zs : List Int) : List Int := zs.mergeSort fun x y => decide (x ≤ y)
theorem only_ints (w : World) (g n : Nat) (d : Array Int) (os : Array Obj) : Only (· = g) w (grow (putRow (Value.int .i64) (Sort.ahead w n) g 0 d) os) := by
  refine ⟨rfl, rfl, rfl, ?_, fun k hk hs => ?_⟩
  · simp [putRow, mapBlock, grow, Sort.ahead]
  · have hs' : ¬ g = k := fun e => hs e.symm
    have h1 : (putRow (Value.int .i64) (Sort.ahead w n) g 0 d).heap[k]? = w.heap[k]? := by
      simp [putRow, mapBlock, Sort.ahead, Array.getElem?_modify, hs']
    exact (heap_grow_old _ os (by simpa [putRow, mapBlock, Sort.ahead] using hk)).trans h1
theorem sort_own (base : Nat) (s : Value) (zs : List Int) (w : World) (h : w.ownsRow base 3 1 s zs.length (zs.map (Value.int .i64))) (hsz : zs.length ≤ 1000000000) :
    Calls Try.prog 59 #[s] w fun e w' => e = .returned (.tuple #[]) ∧ IntsAt w' base s (sorted zs) ∧ Only (fun k => some k = s.ownBlock) w w' := by
  have hl : (sorted zs).length = zs.length := List.length_mergeSort _
  obtain ⟨h1, ⟨rfl, h2⟩ | ⟨g, cap, cur, rfl, hb, hg, hn, hm, hs, ht⟩⟩ := h
  · obtain rfl : zs = [] := List.eq_nil_of_length_eq_zero h2
    refine (AnyM.slices_Sort_int_none Try.sortI none 0 w).mono ?_
    rintro e w' ⟨rfl, rfl⟩
    exact ⟨rfl, ⟨none, 0, by rw [hl]; rfl, fun h => by rw [hl] at h; exact absurd h (Nat.lt_irrefl _)⟩, Only.refl _ _⟩
  · have hlt := block_lt hg
    have hH : Holds (Value.int .i64) w g 0 zs.toArray := by
      intro i hi
      have hi' : i < zs.length := by simpa using hi
      refine ⟨?_, RowAt.frozen (show RowAt w g cur 3 from hg) _⟩
      rw [Nat.zero_add, cell_of_row w g i cur 3 (0, 0) hg, ← Array.getElem?_toList]
      have e1 : (cur.toList.take (zs.length * 1))[i]? = cur.toList[i]? := by rw [List.getElem?_take, if_pos (by omega)]
      rw [← e1, ht]
      simp [hi']
    refine (AnyM.slices_Sort_int Try.sortI g 0 cap zs w hH hlt (by omega)).mono ?_
    rintro e w' ⟨rfl, n, os, rfl⟩
    refine ⟨rfl, ⟨some ⟨g, 0, none⟩, cap, by rw [hl], fun h0 => ⟨g, rfl, hb, ?_, fun i x hx => ?_⟩⟩, (only_ints w g n _ os).mono fun k hk => by rw [hk]; rfl⟩
    · exact Nat.lt_of_lt_of_le hlt (only_ints w g n _ os).size
    · have hH2 := holds_grow (Value.int .i64) (putRow (Value.int .i64) (Sort.ahead w n) g 0 (sorted zs).toArray) os g 0 (sorted zs).toArray (by simpa [putRow, mapBlock, Sort.ahead] using hlt) (holds_putRow (Value.int .i64) (Sort.ahead w n) g 0 zs.toArray (sorted zs).toArray hH (by simp [hl]))
      have hi : i < (sorted zs).length := by
        rcases Nat.lt_or_ge i (sorted zs).length with q | q
        · exact q
        · rw [List.getElem?_eq_none q] at hx; cases hx
      have := (hH2 i (by simpa using hi)).1
      rw [Nat.zero_add] at this
      have e3 : (sorted zs).toArray[i]! = x := by
        rw [List.getElem?_eq_getElem hi] at hx
        injection hx with hx
        simp [hi, hx]
      rw [e3] at this
      exact this
end Go.Proofs.Ytdhgcmodlikckaa
