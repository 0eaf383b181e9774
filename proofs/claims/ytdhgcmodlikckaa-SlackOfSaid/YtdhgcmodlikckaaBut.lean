/- One block changes, and new ones come: nothing else turns. -/
import Derived.Test.YtdhgcmodlikckaaRowat
namespace Go.Proofs.Ytdhgcmodlikckaa
open Go.RowKit
set_option linter.unusedVariables false
set_option linter.unusedSimpArgs false

/-- Of all blocks that were there, b alone may have turned. -/
structure But (b : Nat) (w w' : World) : Prop where
  os : w'.os = w.os
  tape : w'.tape = w.tape
  output : w'.output = w.output
  size : w.heap.size ≤ w'.heap.size
  block : ∀ k, k < w.heap.size → k ≠ b → w'.heap[k]? = w.heap[k]?
theorem But.refl (b : Nat) (w : World) : But b w w := ⟨rfl, rfl, rfl, Nat.le_refl _, fun _ _ _ => rfl⟩
theorem But.trans {b : Nat} {x y z : World} (h : But b x y) (k : But b y z) : But b x z :=
  ⟨k.os.trans h.os, k.tape.trans h.tape, k.output.trans h.output, Nat.le_trans h.size k.size, fun i hi hb => (k.block i (Nat.lt_of_lt_of_le hi h.size) hb).trans (h.block i hi hb)⟩
theorem but_of {w w' : World} (h : Below w.heap.size w w') (b : Nat) : But b w w' := ⟨h.os, h.tape, h.output, h.size, fun k hk _ => h.block k hk⟩
theorem But.set {b : Nat} {w W : World} (h : But b w W) (i : Nat) (v : Value) : But b w (W.setCell ⟨b, i, none⟩ v) :=
  h.trans ⟨rfl, rfl, rfl, by simp [World.setCell], fun k _ hk => Below.heap_setCell _ _ _ _ hk⟩
theorem But.setRow {b : Nat} {w W : World} (h : But b w W) (cs : Array Value) : But b w (W.setRow b cs) :=
  h.trans ⟨rfl, rfl, rfl, by simp, fun k _ hk => by simp only [World.setRow, Array.getElem?_modify]; rw [if_neg (by omega)]⟩
theorem But.drew {b : Nat} {w W : World} (h : But b w W) : But b w W.drew := ⟨h.os, h.tape, h.output, h.size, h.block⟩
theorem But.drewN {b : Nat} {w W : World} (h : But b w W) (n : Nat) : But b w (W.drewN n) := ⟨h.os, h.tape, h.output, h.size, h.block⟩
theorem But.alloc {b : Nat} {w W : World} (h : But b w W) (o : Obj) : But b w (W.alloc o) := h.trans (but_of ((Below.refl _ W).alloc (Nat.le_refl _) o) b)
theorem But.below {b B : Nat} {u w w' : World} (h : Below B u w) (k : But b w w') (hb : B ≤ b) (hB : B ≤ w.heap.size) : Below B u w' :=
  h.trans ⟨k.os, k.tape, k.output, k.size, fun i hi => k.block i (by omega) (by omega)⟩
theorem RowAt.but {b k : Nat} {cs : Array Value} {t : TypeId} {w w' : World} (h : RowAt w k cs t) (hb : But b w w') (hk : k ≠ b) : RowAt w' k cs t := (hb.block k h.lt hk).trans h
theorem But.lt {b : Nat} {w w' : World} (h : But b w w') {k : Nat} (hk : k < w.heap.size) : k < w'.heap.size := Nat.lt_of_lt_of_le hk h.size
theorem heap_drew (w : World) : w.drew.heap = w.heap := rfl
end Go.Proofs.Ytdhgcmodlikckaa
