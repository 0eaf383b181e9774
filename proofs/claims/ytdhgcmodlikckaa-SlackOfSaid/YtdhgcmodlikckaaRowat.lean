/- Rows of cells that are not written out: a block that is known whole, behind loads and stores. -/
import Derived.Test.YtdhgcmodlikckaaW0
import Derived.Laws.Rows
import Derived.Laws.Tables
import Derived.Laws.CopyOwn
namespace Go.Proofs.Ytdhgcmodlikckaa
open Go.RowKit
set_option linter.unusedVariables false
set_option linter.unusedSimpArgs false

/-- Block b holds just these cells. -/
def RowAt (W : World) (b : Nat) (cs : Array Value) (t : TypeId) : Prop := W.heap[b]? = some (.cells cs t (0, 0))
section
variable {W : World} {b : Nat} {cs : Array Value} {t : TypeId}
theorem RowAt.lt (h : RowAt W b cs t) : b < W.heap.size := block_lt h
theorem RowAt.cell (h : RowAt W b cs t) {i : Nat} {v : Value} (hv : cs[i]? = some v) : W.cell? ⟨b, i, none⟩ = some v := (cell_of_row W b i cs t (0, 0) h).trans hv
theorem RowAt.frozen (h : RowAt W b cs t) (i : Nat) : W.frozen? ⟨b, i, none⟩ = false := by
  have : W.heap[b]? = some (.cells cs t (0, 0)) := h
  simp [World.frozen?, this]
theorem RowAt.below (h : RowAt W b cs t) {W' : World} {B : Nat} (hb : Below B W W') (hB : b < B) : RowAt W' b cs t := (hb.block b hB).trans h
theorem RowAt.ext (h : RowAt W b cs t) {W' : World} (hb : Below W.heap.size W W') : RowAt W' b cs t := h.below hb h.lt
theorem RowAt.alloc (h : RowAt W b cs t) (o : Obj) : RowAt (W.alloc o) b cs t := (Below.heap_alloc W o b h.lt).trans h
theorem RowAt.new (W : World) (cs : Array Value) (t : TypeId) : RowAt (W.alloc (.cells cs t)) W.heap.size cs t := heap_alloc_new W _
theorem RowAt.drew (h : RowAt W b cs t) : RowAt W.drew b cs t := h
theorem RowAt.set (h : RowAt W b cs t) (i : Nat) (v : Value) : RowAt (W.setCell ⟨b, i, none⟩ v) b (cs.setIfInBounds i v) t := by
  have h' : W.heap[b]? = some (.cells cs t (0, 0)) := h
  unfold RowAt
  simp [World.setCell, Array.getElem?_modify, h']
theorem RowAt.other (h : RowAt W b cs t) {p : Addr} (hp : b ≠ p.block) (v : Value) : RowAt (W.setCell p v) b cs t := (Below.heap_setCell W p v b hp).trans h
theorem RowAt.setRow (h : RowAt W b cs t) (cs' : Array Value) : RowAt (W.setRow b cs') b cs' t := setRow_heap W b cs cs' t (0, 0) h
theorem RowAt.setRow_other (h : RowAt W b cs t) {g : Nat} (hg : b ≠ g) (cs' : Array Value) : RowAt (W.setRow g cs') b cs t := by
  have h' : W.heap[b]? = some (.cells cs t (0, 0)) := h
  unfold RowAt World.setRow
  simp only [Array.getElem?_modify]
  rw [if_neg (by omega), h']
end
def bools (l : List Bool) : Array Value := (l.map Value.bool).toArray
theorem bools_size (l : List Bool) : (bools l).size = l.length := by simp [bools]
theorem bools_get {l : List Bool} {i : Nat} {v : Bool} (h : l[i]? = some v) : (bools l)[i]? = some (.bool v) := by simp [bools, h]
theorem bools_set (l : List Bool) (i : Nat) (v : Bool) : (bools l).setIfInBounds i (.bool v) = bools (l.set i v) := by simp [bools]
def ints (k : IntKind) (l : List Int) : Array Value := (l.map (Value.int k)).toArray
theorem ints_size (k : IntKind) (l : List Int) : (ints k l).size = l.length := by simp [ints]
theorem ints_get {k : IntKind} {l : List Int} {i : Nat} {v : Int} (h : l[i]? = some v) : (ints k l)[i]? = some (.int k v) := by simp [ints, h]
theorem ints_set (k : IntKind) (l : List Int) (i : Nat) (v : Int) : (ints k l).setIfInBounds i (.int k v) = ints k (l.set i v) := by simp [ints]
theorem bools_one (l : List Bool) : (bools l).all (·.oneCell') = true := by simp [bools, Value.oneCell']
theorem ints_one (k : IntKind) (l : List Int) : (ints k l).all (·.oneCell') = true := by simp [ints, Value.oneCell']
/-- A list whose every place is told. -/
theorem list_of_places {α : Type} (l : List α) (n : Nat) (f : Nat → α) (hl : l.length = n) (h : ∀ i, i < n → l[i]? = some (f i)) : l = (List.range n).map f := by
  apply List.ext_getElem?
  intro i
  rcases Nat.lt_or_ge i n with hi | hi
  · rw [h i hi]; simp [hi]
  · rw [List.getElem?_eq_none (by omega), List.getElem?_eq_none (by simpa using hi)]
theorem range_get {α : Type} (n : Nat) (f : Nat → α) (i : Nat) (hi : i < n) : ((List.range n).map f)[i]? = some (f i) := by simp [hi]
end Go.Proofs.Ytdhgcmodlikckaa
