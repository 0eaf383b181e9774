/- Words for this seat's walks: worlds that grow, regions that draw their order beside calls that make memory, arrays of whole numbers held against each other. -/
import Derived.WalkKit
import Derived.WalkLawsBesides
import Derived.KernelRfl
import Derived.Outline
import Derived.Lib.Hide
import Derived.Deep.QuietTactic
import Derived.BigQuiet
import Derived.Handy
namespace Go.Proofs.Ytdhgcmodlikckaa
open Go.RowKit
set_option linter.unusedVariables false
set_option linter.unusedSimpArgs false

/-! ### Worlds that grow -/
theorem below_then {w w1 w2 : World} (h : Below w.heap.size w w1) (k : Below w1.heap.size w1 w2) : Below w.heap.size w w2 := h.trans (k.mono h.size)
theorem below_drewN {B : Nat} {w W : World} (h : Below B w W) (n : Nat) : Below B w (W.drewN n) := ⟨h.os, h.tape, h.output, h.size, h.block⟩
theorem below_new {w W : World} (h : Below w.heap.size w W) (o : Obj) : Below w.heap.size w (W.alloc o) := h.alloc h.size o

/-- A world in which all that lay below block B lies as it lay in w. -/
structure Ext (B : Nat) (w : World) where
  world : World
  ok : Below B w world
instance {B : Nat} {w : World} : Nonempty (Ext B w) := ⟨⟨w, Below.refl _ _⟩⟩
section
variable {w : World}
theorem Ext.step (x : Ext w.heap.size w) {w' : World} (h : Below x.world.heap.size x.world w') : ∃ y : Ext w.heap.size w, w' = y.world := ⟨⟨w', below_then x.ok h⟩, rfl⟩
theorem Ext.call {P : Program} {f : FuncId} {args : Array Value} {x : Ext w.heap.size w} {v : Value}
    (h : Calls P f args x.world fun e w' => e = .returned v ∧ Below x.world.heap.size x.world w') :
    Calls P f args x.world fun e w'' => e = .returned v ∧ ∃ y : Ext w.heap.size w, w'' = y.world :=
  h.mono fun _ _ ⟨he, hb⟩ => ⟨he, x.step hb⟩
theorem Ext.cell (x : Ext w.heap.size w) {a : Addr} {v : Value} (h : w.cell? a = some v) : x.world.cell? a = some v :=
  (x.ok.cell (World.block_lt_of_cell? w a h)).trans h
theorem Ext.frozen (x : Ext w.heap.size w) {a : Addr} (h : a.block < w.heap.size) : x.world.frozen? a = w.frozen? a := x.ok.frozen h
theorem block_lt {b : Nat} {o : Obj} (h : w.heap[b]? = some o) : b < w.heap.size := (Array.getElem?_eq_some_iff.1 h).1
/-- A block that is known whole: its cells, in every such world. -/
theorem Ext.cells {b : Nat} {t : TypeId} {cs : Array Value} (h : w.heap[b]? = some (.cells cs t (0, 0))) :
    (∀ (x : Ext w.heap.size w) (i : Nat), x.world.cell? ⟨b, i, none⟩ = cs[i]?) ∧ (∀ (x : Ext w.heap.size w) (i : Nat), x.world.frozen? ⟨b, i, none⟩ = false) := by
  have hlt := block_lt h
  refine ⟨fun x i => ?_, fun x i => ?_⟩
  · rw [x.ok.cell (p := ⟨b, i, none⟩) hlt]
    exact cell_of_row w b i cs t (0, 0) h
  · rw [x.ok.frozen (p := ⟨b, i, none⟩) hlt]
    simp [World.frozen?, h]
/-- The walk begins in w: from here on it goes in a world beyond w. -/
theorem wp_start {P : Program} {c : Code} {Q : Exit → Act → World → Prop} {a : Act} (h : ∀ x : Ext w.heap.size w, c.wp P Q a x.world) : c.wp P Q a w := h ⟨w, Below.refl _ _⟩
theorem Ext.block (x : Ext w.heap.size w) {b : Nat} {o : Obj} (h : w.heap[b]? = some o) : x.world.heap[b]? = some o := (x.ok.block b (block_lt h)).trans h
theorem block_below {b : Nat} {o : Obj} {W : World} (h : w.heap[b]? = some o) (hb : Below w.heap.size w W) : W.heap[b]? = some o := (hb.block b (block_lt h)).trans h
/-- New blocks at the walk's begin, under one name. -/
theorem wp_box {P : Program} {c : Code} {Q : Exit → Act → World → Prop} {a : Act} {o : Obj}
    (h : ∀ W : World, Below w.heap.size w W → W.heap[w.heap.size]? = some o → w.heap.size < W.heap.size → c.wp P Q a W) : c.wp P Q a (w.alloc o) :=
  h _ (below_new (Below.refl _ _) _) (heap_alloc_new w o) (by simp)
theorem wp_box2 {P : Program} {c : Code} {Q : Exit → Act → World → Prop} {a : Act} {o o2 : Obj}
    (h : ∀ W : World, Below w.heap.size w W → W.heap[w.heap.size]? = some o → W.heap[w.heap.size + 1]? = some o2 → w.heap.size + 1 < W.heap.size → c.wp P Q a W) : c.wp P Q a ((w.alloc o).alloc o2) :=
  h _ (below_new (below_new (Below.refl _ _) _) _) ((Below.heap_alloc _ _ _ (by simp)).trans (heap_alloc_new w o)) (by have := heap_alloc_new (w.alloc o) o2; simpa using this) (by simp)
theorem wp_box3 {P : Program} {c : Code} {Q : Exit → Act → World → Prop} {a : Act} {o o2 o3 : Obj}
    (h : ∀ W : World, Below w.heap.size w W → W.heap[w.heap.size]? = some o → W.heap[w.heap.size + 1]? = some o2 → W.heap[w.heap.size + 2]? = some o3 → w.heap.size + 2 < W.heap.size → c.wp P Q a W) : c.wp P Q a (((w.alloc o).alloc o2).alloc o3) :=
  h _ (below_new (below_new (below_new (Below.refl _ _) _) _) _) ((Below.heap_alloc _ _ _ (by simp; omega)).trans ((Below.heap_alloc _ _ _ (by simp)).trans (heap_alloc_new w o)))
    ((Below.heap_alloc _ _ _ (by simp)).trans (by have := heap_alloc_new (w.alloc o) o2; simpa using this)) (by have := heap_alloc_new ((w.alloc o).alloc o2) o3; simpa using this) (by simp)
theorem calls_box {P : Program} {f : FuncId} {args : Array Value} {R : Ending → World → Prop} {o : Obj}
    (h : ∀ W : World, Below w.heap.size w W → W.heap[w.heap.size]? = some o → w.heap.size < W.heap.size → Calls P f args W R) : Calls P f args (w.alloc o) R :=
  h _ (below_new (Below.refl _ _) _) (heap_alloc_new w o) (by simp)
theorem calls_box2 {P : Program} {f : FuncId} {args : Array Value} {R : Ending → World → Prop} {o o2 : Obj}
    (h : ∀ W : World, Below w.heap.size w W → W.heap[w.heap.size]? = some o → W.heap[w.heap.size + 1]? = some o2 → w.heap.size + 1 < W.heap.size → Calls P f args W R) : Calls P f args ((w.alloc o).alloc o2) R :=
  h _ (below_new (below_new (Below.refl _ _) _) _) ((Below.heap_alloc _ _ _ (by simp)).trans (heap_alloc_new w o)) (by have := heap_alloc_new (w.alloc o) o2; simpa using this) (by simp)
theorem Ext.of {w' : World} (h : Below w.heap.size w w') : ∃ y : Ext w.heap.size w, w' = y.world := ⟨⟨w', h⟩, rfl⟩
theorem below_set {B : Nat} {a W : World} (h : Below B a W) {p : Addr} (hp : B ≤ p.block) (u : Value) : Below B a (W.setCell p u) := h.setCell hp u
/-- A region that draws its order, whose operations only read what lay before and whose calls make memory alone: one walk serves every order. -/
theorem wp_region_ext {P : Program} {id : Nat} {Q : Exit → Act → World → Prop} {a : Act} (x : Ext w.heap.size w) {l : List Oper} (hm : P.follows .mixedOrders = true) (hB : Region.lexB .any l.toArray = true)
    (h : wpQuiet P l.toArray (fun w' => ∃ y : Ext w.heap.size w, w' = y.world) (fun a' => ∀ w', (∃ y : Ext w.heap.size w, w' = y.world) → Q .normal a' w') l a) : (Code.region id l.toArray true).wp P Q a x.world :=
  wp_region_quiet (C := fun w' => ∃ y : Ext w.heap.size w, w' = y.world) hm hB ⟨⟨x.world.drew, x.ok.drew⟩, rfl⟩ (by simpa using h)
end
theorem ret_int {k : IntKind} {a b : Int} (h : a = b) : Ending.returned (.int k a) = .returned (.int k b) := by rw [h]
theorem ret_bool {a b : Bool} (h : a = b) : Ending.returned (.bool a) = .returned (.bool b) := by rw [h]

/-! ### Arrays of whole numbers -/
section
variable {P : Program} (w : World)
theorem run_part_one (e : TypeId) (k' : IntKind) (he : P.underlying e = some (.int k')) (l : List Value) (i : Nat) (v : Value) (hv : l[i]? = some v) :
    (part e l.toArray i).run P w = .ok v w := by
  simp [part, isAgg, run_underlying he, hv]
theorem run_array_int_from (d : Nat) (e : TypeId) (k k' : IntKind) (he : P.underlying e = some (.int k'))
    (xs ys : List Int) : ∀ (c s : Nat), s + c = xs.length → s + c = ys.length →
    Sem.run P
          (forIn (List.range' s c) ((none : Option Bool), ()) fun i __s => do
            let __do_lift ← part e (List.map (Value.int k) xs).toArray i
            let __do_lift_1 ← part e (List.map (Value.int k) ys).toArray i
            let __do_lift ← Op.equalIn (d + 1) e __do_lift __do_lift_1
            if __do_lift = false then pure (ForInStep.done (some false, ())) else pure (ForInStep.yield (none, ())))
          w = .ok (if xs.drop s = ys.drop s then (none, ()) else (some false, ())) w
  | 0, s, h1, h2 => by
    have e1 : xs.drop s = [] := List.drop_eq_nil_of_le (by omega)
    have e2 : ys.drop s = [] := List.drop_eq_nil_of_le (by omega)
    rw [e1, e2]
    simp
  | c + 1, s, h1, h2 => by
    have hx : s < xs.length := by omega
    have hy : s < ys.length := by omega
    have ih := run_array_int_from d e k k' he xs ys c (s + 1) (by omega) (by omega)
    have hiff : (xs.drop s = ys.drop s) = (xs[s] = ys[s] ∧ xs.drop (s + 1) = ys.drop (s + 1)) := by
      rw [List.drop_eq_getElem_cons hx, List.drop_eq_getElem_cons hy, List.cons.injEq]
    simp only [hiff]
    rw [List.range'_succ, List.forIn_cons]
    simp only [Sem.run_bind]
    rw [run_part_one w e k' he _ s (.int k xs[s]) (by simp [hx]), Result.andThen_ok, run_part_one w e k' he _ s (.int k ys[s]) (by simp [hy]), Result.andThen_ok,
      run_equalIn_int w d e k k' _ _ he, Result.andThen_ok]
    by_cases hxy : xs[s] = ys[s]
    · simp only [hxy, beq_self_eq_true, Bool.true_eq_false, if_false, Sem.run_pure, Result.andThen_ok, true_and]
      exact ih
    · simp [hxy]
theorem run_equalIn_array_int (d : Nat) (t e : TypeId) (len : Nat) (k k' : IntKind) (i : TypeInfo) (ht : P.underlying t = some (.array len e)) (he : P.underlying e = some (.int k')) (hi : P.info? e = some i) (hz : i.size = 1)
    (xs ys : List Int) (hx : xs.length = len) (hy : ys.length = len) :
    (Op.equalIn (d + 2) t (.agg (xs.map (Value.int k)).toArray) (.agg (ys.map (Value.int k)).toArray)).run P w = .ok (xs == ys) w := by
  rw [show d + 2 = (d + 1) + 1 from rfl]
  unfold Op.equalIn
  simp only [Sem.run_bind, run_underlying ht, Result.andThen_ok]
  simp [sizeOf, typeInfo, hi, hz]
  rw [run_array_int_from w d e k k' he xs ys len 0 (by omega) (by omega)]
  simp only [List.drop_zero, Result.andThen_ok]
  by_cases hxy : xs = ys
  · simp [hxy]
  · simp [hxy]
theorem run_eql_array_int (t e : TypeId) (len : Nat) (k k' : IntKind) (i : TypeInfo) (ht : P.underlying t = some (.array len e)) (he : P.underlying e = some (.int k')) (hi : P.info? e = some i) (hz : i.size = 1)
    (xs ys : List Int) (hx : xs.length = len) (hy : ys.length = len) :
    (binOp .eql t (.agg (xs.map (Value.int k)).toArray) (.agg (ys.map (Value.int k)).toArray)).run P w = .ok (.bool (xs == ys)) w := by
  simp only [binOp]
  simp [Op.equal, Op.maxDepth, run_equalIn_array_int w 9998 t e len k k' i ht he hi hz xs ys hx hy]
end

/-! ### Bits of 64 -/
theorem u64_and63 (x : Int) (h0 : 0 ≤ x) (h1 : x ≤ 18446744073709551615) : bits .and .u64 x 63 = x % 64 :=
  bits_mask .u64 64 (by decide) (fun n h0 h1 => by rw [IntKind.wrap_u64]; omega) 6 (by decide) x h0 (by omega)
theorem u64_or_add (i : Nat) (x y : Int) (hx0 : 0 ≤ x) (hx : x % 2 ^ i = 0) (hx1 : x ≤ 18446744073709551615) (hy0 : 0 ≤ y) (hy : y < 2 ^ i) (hy1 : y ≤ 18446744073709551615) : bits .or .u64 x y = x + y :=
  bits_join .u64 64 (by decide) (fun n h0 h1 => by rw [IntKind.wrap_u64]; omega) i x y hx0 hx (by omega) hy0 hy (by omega)
end Go.Proofs.Ytdhgcmodlikckaa
