/- Regions sorted by their bases. -/
import Derived.Test.YtgkklgebgabncaaBuA
import Derived.Test.YtgkklgebgabncaaOnly
import Derived.Shelf.SlSortCmp.NoneTotal
import Derived.Shelf.Lay
namespace Go.Proofs.Ytgkklgebgabncaa
open Go.RowKit
set_option linter.unusedVariables false
set_option linter.unusedSimpArgs false
open Go.Shelf Go.Lib Go.Sort
shelf_lay_g SlLaysF0.n6 Slsf 6 at Try 58 as Try.sortRg
def rc (p : Int × Int) : List Value := [.int .u32 p.1, .int .u32 p.2]
def cfR (x y : Int × Int) : Int := Lib.compareInt x.1 y.1
theorem ltR (x y : Int × Int) : ltOf cfR x y = decide (x.1 < y.1) := by
  unfold ltOf cfR Lib.compareInt
  by_cases h1 : x.1 < y.1
  · simp [h1]
  · by_cases h2 : y.1 < x.1 <;> simp [h1, h2]
theorem swoR : SWO (ltOf cfR) where
  irrefl x := by rw [ltR]; simp
  trans x y z h1 h2 := by rw [ltR] at *; simp at *; omega
  ntrans x y z h1 h2 := by rw [ltR] at *; simp at *; omega
set_option maxHeartbeats 8000000 in
set_option maxRecDepth 100000 in
theorem compare_any (x y : Int) (w : World) :
    Calls Try.prog 60 #[.int .u32 x, .int .u32 y] w fun e w' => e = .returned (.int .i64 (Lib.compareInt x y)) ∧ w' = w := by
  have hx : (x != x) = false := by simp
  have hy : (y != y) = false := by simp
  go_enter Try.func60, Try.ntmps60
  go_wp2
  all_goals
    go_ret
    refine ⟨ret_int ?_, rfl⟩
    unfold Lib.compareInt
    simp_all
    try omega
set_option maxHeartbeats 1000000 in
theorem clos_any (x y : Int × Int) (W : World) : Calls Try.prog 59 #[.agg #[.int .u32 x.1, .int .u32 x.2], .agg #[.int .u32 y.1, .int .u32 y.2]] W fun e w' => e = .returned (.int .i64 (cfR x y)) ∧ ∃ q os', w' = grow (W.drewN q) os' := by
  have hcon := fun W' => compare_any x.1 y.1 W'
  unfold cfR
  generalize Lib.compareInt x.1 y.1 = r at hcon ⊢
  go_enter Try.func59, Try.ntmps59
  go_wp2_with (go_at_call 60; refine (hcon _).mono ?_; rintro e w' ⟨rfl, rfl⟩)
  go_ret
  exact ⟨rfl, 0, _, by rw [alloc_eq_grow, alloc_eq_grow, grow_grow]; rfl⟩
theorem cmpLaysR (blk off size : Nat) (w : World) : CmpLays Try.prog 59 #[] rc 2 cfR blk off size w :=
  fun _ _ _ _ x y => clos_any x y _
theorem only_sorted (w : World) (g n : Nat) (d : Array (Int × Int)) (os : Array Obj) : Only (· = g) w (sortWorldK rc 2 w g 0 n d os) := by
  refine ⟨rfl, rfl, rfl, ?_, fun k hk hs => ?_⟩
  · simp [sortWorldK, putRowK, putRow, mapBlock, grow, Sort.ahead]
  · have hs' : ¬ g = k := fun e => hs e.symm
    have h1 : (putRowK rc 2 (Sort.ahead w n) g 0 d).heap[k]? = w.heap[k]? := by
      simp [putRowK, putRow, mapBlock, Sort.ahead, Array.getElem?_modify, hs']
    exact (heap_grow_old _ os (by simpa [putRowK, putRow, mapBlock, Sort.ahead] using hk)).trans h1
theorem sort_any (g cap : Nat) (d : Array (Int × Int)) (w : World) (hH : HoldsK rc 2 w g 0 d) (hb : g < w.heap.size) (hsz : d.size < 4611686018427387904) :
    Calls Try.prog 58 #[.slice (some ⟨g, 0, none⟩) d.size cap, .func (.func 59) #[] #[]] w fun e w' =>
      e = .returned (.tuple #[]) ∧ ∃ d' : Array (Int × Int), d'.toList.Perm d.toList ∧ SortedIn (ltOf cfR) 0 d'.size d' ∧ HoldsK rc 2 w' g 0 d' ∧ Only (· = g) w w' := by
  have eg : ∀ args w, (callFunc 59 args).run Try.prog w = .ok (.enter 59 args) w := enters_of Try.func59 (by kernel_rfl) rfl
  have hcon := AnyQ.slices_SortFunc Try.sortRg 2 Try.isAgg52 Try.sizeOf52 rc (fun _ => rfl) (fun x v hv => by simp [rc] at hv; rcases hv with rfl | rfl <;> rfl) cfR swoR 59 #[] g 0 cap d w eg (cmpLaysR g 0 d.size w) hH hb hsz
  change Calls Try.prog 58 _ _ _ at hcon
  refine hcon.mono ?_
  rintro e w' ⟨rfl, d', n, os, hp, hs, rfl⟩
  refine ⟨rfl, d', ?_, ?_, ?_, only_sorted w g n d' os⟩
  · have h := hp.2.2
    have e : List.take d.size d'.toList = d'.toList := List.take_of_length_le (by simp [hp.1])
    simpa [e] using h
  · rw [hp.1]; exact hs
  · exact holdsK_grow rc 2 _ os g 0 d' (by simpa [putRowK, putRow, mapBlock, Sort.ahead] using hb) (holdsK_putRowK rc 2 (Sort.ahead w n) g 0 d d' (holdsK_ahead rc 2 w n g 0 d hH) hp.1)
theorem sort_none (p : Option Addr) (cap : Nat) (fv : Value) (w : World) :
    Calls Try.prog 58 #[.slice p 0 cap, fv] w fun e w' => e = .returned (.tuple #[]) ∧ w' = w := by
  have hcon := AnyF.slices_SortFunc_none Try.sortRg p cap fv w
  exact hcon
end Go.Proofs.Ytgkklgebgabncaa
