/- A range over a function whose iterator is told what the rounds keep: its word is asked of the caller's own invariant alone. -/
import Derived.Test.YtelnembjcgkiaaaProg
import Derived.Test.YtelnembjcgkiaaaGrowB
import Derived.RangeFuncNested
import Derived.RangeFuncBound
import Derived.RangeFuncCalls
import Derived.RangeFuncLeaves
import Derived.Shelf.Abstract
import Derived.Shelf.RegionOpen
import Derived.WalkKit
import Derived.OwnWalkIn
import Derived.TacticsInMore
import Derived.LoopNIn
import Derived.LoopIn
import Derived.RangeFuncFrom
import Derived.RangeFuncBox
import Derived.Maps.AppendAt
namespace Go.Proofs.Ytelnembjcgkiaaa
open Go.RowKit Go.Shelf
set_option linter.unusedVariables false
set_option linter.unusedSimpArgs false
attribute [local go_sem] Oper.semAt_some
/-- What an iterator owes where the rounds keep I. -/
def SeqAt {α : Type} (F : Fence) (n : Nat) (P : Program) (g : Nat) (lb : Array Value) (encs : α → Array Value) (I : List α → World → Prop) (S : List α → Prop) (N B : Nat) : Prop :=
  ∀ (l : Nat) (J : List α → World → Prop) (W : World), (∀ pre W, J pre W → I pre W) → AbidesFrom B J →
    (∀ pre x W1, J pre W1 → pre.length < N → YieldAt F (n - 1) P l (encs x) W1 fun e W' => e = .returned (.bool true) ∧ J (pre ++ [x]) W') →
    J [] W →
    CallsIn F n P g (#[.func (.yield l) #[] #[]] ++ lb) W fun e W' => (∃ v, e = .returned v) ∧ ∃ xs, S xs ∧ J xs W'
/-- The law: the loop's own two blocks beside I make the J that the iterator is handed. -/
theorem wpIn_range_at {α : Type} {F : Fence} {n : Nat} {P : Program} {g : Operand} {ps : Array Tmp} {assign body : Code} {Q : Exit → Act → World → Prop} {a : Act} {w : World}
    (hro : F.round = none) (h1 : 1 ≤ n) {gf : Nat} {lb : Array Value} (hg : a.eval g = .func (.func gf) #[] lb) (hFg : F.fn gf) (eg : ∀ args w, (callFunc gf args).run P w = .ok (.enter gf args) w)
    {encs : α → Array Value} {S : List α → Prop} {N : Nat} (hps : ∀ x, (encs x).size = ps.size)
    (I : List α → World → Prop) (hI : OwnFrom w.heap.size I) (h0 : I [] w) (a₁ : α → Act)
    (hseq : SeqAt F (n - 1) P gf lb encs I S N (w.heap.size + 2))
    (hassign : ∀ (l : Nat) (x : α) (W : World) (K : Act → World → Prop), K (a₁ x) W →
      assign.wpIn (F.inRound l) (n - 1 - 1) P (Exit.then K (fun _ _ _ => False)) { tmps := (ps.zip (encs x)).foldl (fun t (p, v) => t.setIfInBounds p v) a.tmps, defers := [] } W)
    (hbody : ∀ (l : Nat) (pre : List α) (x : α) (W : World), I pre W → pre.length < N →
      body.wpIn (F.inRound l) (n - 1 - 1) P (fun e _ W' => e = .normal ∧ KeepsFrom w.heap.size W W' ∧ I (pre ++ [x]) W') (a₁ x) W)
    (hdone : ∀ (D : Nat) (xs : List α) (W : World), w.heap.size ≤ D → S xs → I xs W → W.heap[D]? = some (.deferred (some [])) → Q .normal { a with defers := { target := .collected D, args := #[] } :: a.defers } W) :
    (Code.rangeFunc g ps assign body).wpIn F n P Q a w := by
  refine wpIn_rangeFunc ?_
  intro fn hfn
  rw [hro]
  obtain ⟨mk, hmk⟩ : ∃ mk : LoopState → Option Code → Loop, mk = fun st pe => { state := st, pending := pe, fn, tmps := a.tmps, params := ps, assign, body, defers := w.heap.size } := ⟨_, rfl⟩
  obtain ⟨V, hV⟩ : ∃ V, (w.alloc (.deferred (some []))).alloc (.loop (mk .ready none)) = V := ⟨_, rfl⟩
  have vD : V.heap[w.heap.size]? = some (.deferred (some [])) := by
    rw [← hV]; exact (Below.heap_alloc _ _ _ (by simp)).trans (World.alloc_heap_new w _)
  have vL : V.heap[w.heap.size + 1]? = some (.loop (mk .ready none)) := by
    rw [← hV]
    have h := World.alloc_heap_new (w.alloc (.deferred (some []))) (.loop (mk .ready none))
    rwa [World.size_alloc] at h
  have vI : I [] V := by rw [← hV]; exact hI.alloc _ (hI.alloc _ h0)
  have vs : V.heap.size = w.heap.size + 2 := by rw [← hV]; simp
  refine ⟨w.heap.size + 1, [{ target := .collected w.heap.size, args := #[] }], V, { target := .fn (.func gf) lb, args := #[.func (.yield (w.heap.size + 1)) #[] #[]] }, V, gf, #[.func (.yield (w.heap.size + 1)) #[] #[]] ++ lb, V, ?_, ?_, ?_, ?_, fun _ => h1, ?_⟩
  · rw [← hV, hmk]; exact run_enterLoop_outer _ _ _ _ _
  · simp only [resolve, hg]
    simp [go_sem]
  · intro f' hf'
    simp [Target.leads] at hf'
    subst hf'
    exact hFg
  · simp [invoke, go_sem, eg]
  · obtain ⟨J, hJ⟩ : ∃ J : List α → World → Prop, J = fun pre W => I pre W ∧ W.heap[w.heap.size + 1]? = some (.loop (mk .ready none)) ∧ W.heap[w.heap.size]? = some (.deferred (some [])) := ⟨_, rfl⟩
    refine (hseq (w.heap.size + 1) J V (fun pre W h => by rw [hJ] at h; exact h.1) ?_ ?_ (by rw [hJ]; exact ⟨vI, vL, vD⟩)).mono ?_
    · rw [hJ]
      intro s A B row hs hgr hr
      have hc : ∀ r, row = some r → ∃ o : Obj, A.heap[r]? = some o ∧ o.isCells = false := fun r e => by
        obtain ⟨_, o, ho, hw⟩ := hr r e
        exact ⟨o, ho, Obj.not_cells_of_walk hw⟩
      refine ⟨hI s A B row hs.1 hgr (fun r e => ⟨by have := (hr r e).1; omega, hc r e⟩), (grownBy_keeps hgr (fun r e => (hr r e).2) hs.2.1 rfl).trans hs.2.1, (grownBy_keeps hgr (fun r e => (hr r e).2) hs.2.2 rfl).trans hs.2.2⟩
    · intro pre x W hj hlen
      rw [hJ] at hj
      obtain ⟨hi, hl, hd⟩ := hj
      have hlt : w.heap.size + 1 < W.heap.size := (Array.getElem?_eq_some_iff.1 hl).1
      have hy := run_yield (P := P) (args := encs x) hl (by rw [hmk]; exact hps x)
      rw [hmk] at hy
      refine ⟨fn, _, assign, body, hy, roundIn_of_wpIn hfn (hassign _ x W _ ?_)⟩
      refine ⟨_, run_beginRound hl (by rw [hmk]), ?_⟩
      obtain ⟨bz, hbz⟩ : ∃ bz : Loop, bz = { mk .ready none with state := .busy } := ⟨_, rfl⟩
      rw [← hbz]
      have l2 : (W.putObj (w.heap.size + 1) (.loop bz)).heap[w.heap.size + 1]? = some (.loop bz) := World.putObj_heap_same hlt
      have d2 : (W.putObj (w.heap.size + 1) (.loop bz)).heap[w.heap.size]? = some (.deferred (some [])) := (World.putObj_heap_other (by omega)).trans hd
      refine wpIn_mono (hbody _ pre x _ (hI.putObj _ hi (by omega) hl rfl) hlen) ?_
      rintro e a3 W3 ⟨rfl, hk3, hi3⟩
      have l3 := hk3.same _ _ (by omega) l2 rfl
      have he := run_endRound (P := P) none (by rw [hbz] at l3; exact l3)
      refine ⟨_, _, he, rfl, ?_⟩
      rw [hJ]
      refine ⟨hI.putObj _ hi3 (by omega) l3 (by rw [hbz]; rfl), ?_, (World.putObj_heap_other (by omega)).trans (hk3.same _ _ (Nat.le_refl _) d2 rfl)⟩
      have := World.putObj_heap_same (o := .loop (mk .ready none)) (Array.getElem?_eq_some_iff.1 l3).1
      rw [hmk] at this ⊢
      exact this
    · rintro e W2 ⟨⟨v, rfl⟩, xs, hS, hj⟩
      rw [hJ] at hj
      obtain ⟨hi, hl, hd⟩ := hj
      refine ⟨none, _, by have := run_endLoop (P := P) hl (by rw [hmk]; simp); rw [hmk] at this; exact this, hdone _ xs _ (Nat.le_refl _) hS (hI.putObj _ hi (by omega) hl rfl) ((World.putObj_heap_other (by omega)).trans hd)⟩
theorem abides_ext {β : Type} {B : Nat} {J : β → World → Prop} (h : AbidesFrom B J) {s : β} {W W' : World} (hs : J s W) (hb : Below W.heap.size W W') : J s W' :=
  h s W W' none hs ⟨hb.os, hb.tape, hb.output, hb.size, fun k hk _ => hb.block k hk⟩ (fun r e => by cases e)
end Go.Proofs.Ytelnembjcgkiaaa
