/- Arguments of whatever shape, opened: whole numbers, truths, texts, structs, arrays, and slices of these. -/
import Derived.WalkKit
import Derived.OpenShut
import Derived.Deep.Slices
import Derived.Lib.SmallJoins
import Derived.Below
import Derived.WideShapes
namespace Go.Proofs.Ytdhgcmodlikckaa
open Go.RowKit Go.Deep
set_option linter.unusedVariables false
set_option linter.unusedSimpArgs false

theorem addr_addS (a : Addr) (x y : Nat) : a.add (x + y) = (a.add x).add y := by
  unfold Addr.add
  by_cases hx : x = 0 <;> by_cases hy : y = 0 <;> simp [*, Nat.add_assoc]
/-- What one cell holds. -/
inductive Sh where
  | int (k : IntKind)
  | bool
  | str
  | slice (e : List Sh)
mutual
def Fit1 (w : World) : Sh → Value → Prop
  | .int k, v => ∃ n, v = .int k n ∧ (Lit.int k n).wf = true
  | .bool, v => ∃ b, v = .bool b
  | .str, v => ∃ s, v = .string s ∧ s.size ≤ maxLen
  | .slice e, v => v = .slice none 0 0 ∨ ∃ a len cap, v = .slice (some a) len cap ∧ len ≤ cap ∧ cap ≤ maxLen ∧
      ∀ i, i < len → ∃ cs, (∀ j, j < e.length → w.cell? (a.add (i * e.length + j)) = cs[j]?) ∧ Fits w e cs
def Fits (w : World) : List Sh → List Value → Prop
  | [], [] => True
  | s :: ss, v :: vs => Fit1 w s v ∧ Fits w ss vs
  | _, _ => False
end
theorem Fits.length {w : World} : ∀ {ss : List Sh} {cs : List Value}, Fits w ss cs → cs.length = ss.length
  | [], [], _ => rfl
  | s :: ss, v :: vs, h => by
    unfold Fits at h
    simpa using h.2.length
  | [], _ :: _, h => by simp [Fits] at h
  | _ :: _, [], h => by simp [Fits] at h
theorem Fits.append {w : World} : ∀ {ss tt : List Sh} {cs ds : List Value}, Fits w ss cs → Fits w tt ds → Fits w (ss ++ tt) (cs ++ ds)
  | [], tt, [], ds, _, h => h
  | s :: ss, tt, v :: vs, ds, h, k => by
    unfold Fits at h
    simp only [List.cons_append]
    unfold Fits
    exact ⟨h.1, h.2.append k⟩
  | [], _, _ :: _, _, h, _ => by simp [Fits] at h
  | _ :: _, _, [], _, h, _ => by simp [Fits] at h
mutual
theorem Fit1.below {w W : World} (hb : Below w.heap.size w W) : ∀ {s : Sh} {v : Value}, Fit1 w s v → Fit1 W s v
  | .int k, v, h => by unfold Fit1 at h ⊢; exact h
  | .bool, v, h => by unfold Fit1 at h ⊢; exact h
  | .str, v, h => by unfold Fit1 at h ⊢; exact h
  | .slice e, v, h => by
    unfold Fit1 at h ⊢
    rcases h with h | ⟨a, len, cap, h1, h2, h3, h4⟩
    · exact .inl h
    · refine .inr ⟨a, len, cap, h1, h2, h3, fun i hi => ?_⟩
      obtain ⟨cs, hc, hf⟩ := h4 i hi
      refine ⟨cs, fun j hj => ?_, hf.below hb⟩
      have hl := hf.length
      have := hc j hj
      rw [List.getElem?_eq_getElem (by omega)] at this ⊢
      rw [hb.cell (World.block_lt_of_cell? w _ this), this]
theorem Fits.below {w W : World} (hb : Below w.heap.size w W) : ∀ {ss : List Sh} {cs : List Value}, Fits w ss cs → Fits W ss cs
  | [], [], _ => by unfold Fits; trivial
  | s :: ss, v :: vs, h => by
    unfold Fits at h ⊢
    exact ⟨h.1.below hb, h.2.below hb⟩
  | [], _ :: _, h => by simp [Fits] at h
  | _ :: _, [], h => by simp [Fits] at h
end

section
variable (P : Program)
/-- The shapes of a type's cells. -/
def shapes : Nat → TypeId → Option (List Sh)
  | 0, _ => none
  | n + 1, t =>
    match P.underlying t with
    | some .bool => some [.bool]
    | some (.int k) => some [.int k]
    | some .string => some [.str]
    | some (.slice e) => (shapes n e).bind fun ss => if ss.length = P.cellsOf e then some [.slice ss] else none
    | some (.struct fs) => (fs.toList.foldr (fun f (r : Nat → Option (List Sh)) acc =>
        if f.offset = acc then (shapes n f.type).bind fun ss => if ss.length = P.cellsOf f.type then (r (acc + ss.length)).map (ss ++ ·) else none else none)
        (fun acc => if acc = P.cellsOf t then some [] else none)) 0
    | some (.array m e) => (shapes n e).bind fun ss => if ss.length = P.cellsOf e ∧ m * P.cellsOf e = P.cellsOf t then some ((List.replicate m ss).flatten) else none
    | _ => none
end
section
variable {H : Type} {enc : TypeId × Value → H} {P : Program} {w : World} {base : Nat} {spare : Nat → Bool} {held : Bool}
theorem fits_fields (n m : Nat) (ih : ∀ (t : TypeId) (cs : List Value) (x : DataW H × List MemPlace) (ss : List Sh), shapes P n t = some ss → DataW.trod enc P w base spare held m t cs = some x → Fits w ss cs) (c : Nat) (cs : List Value) (hc : cs.length = c) :
    ∀ (fs : List Field) (acc : Nat) (ss : List Sh), (fs.foldr (fun f (r : Nat → Option (List Sh)) acc =>
        if f.offset = acc then (shapes P n f.type).bind fun ss => if ss.length = P.cellsOf f.type then (r (acc + ss.length)).map (ss ++ ·) else none else none)
        (fun acc => if acc = c then some [] else none)) acc = some ss →
      (∀ f ∈ fs, ∃ x, DataW.trod enc P w base spare held m f.type ((cs.drop f.offset).take (P.cellsOf f.type)) = some x) → Fits w ss (cs.drop acc)
  | [], acc, ss, h, _ => by
    simp only [List.foldr_nil] at h
    split at h
    · cases h
      rw [List.drop_eq_nil_of_le (by omega)]
      unfold Fits; trivial
    · cases h
  | f :: fs, acc, ss, h, hx => by
    simp only [List.foldr_cons] at h
    split at h
    · rename_i hoff
      obtain ⟨s1, hs1, h⟩ := Option.bind_eq_some_iff.1 h
      split at h
      · rename_i hlen
        obtain ⟨s2, hs2, rfl⟩ := Option.map_eq_some_iff.1 h
        obtain ⟨x, hx1⟩ := hx f List.mem_cons_self
        have f1 := ih _ _ _ _ hs1 hx1
        have f2 := fits_fields n m ih c cs hc fs _ _ hs2 (fun g hg => hx g (List.mem_cons_of_mem _ hg))
        rw [hoff] at f1
        have := f1.append f2
        rw [hlen, ← List.drop_drop, List.take_append_drop] at this
        exact this
      · cases h
    · cases h
theorem fits_rows (ss : List Sh) (cs : List Value) (c : Nat) (hc : ss.length = c) : ∀ (m k : Nat), cs.length = (k + m) * c →
    (∀ i, i < m → Fits w ss ((cs.drop ((k + i) * c)).take c)) → Fits w (List.replicate m ss).flatten (cs.drop (k * c))
  | 0, k, hl, _ => by
    rw [List.drop_eq_nil_of_le (by simp at hl; omega)]
    simp [Fits]
  | m + 1, k, hl, h => by
    rw [List.replicate_succ, List.flatten_cons]
    have f1 := h 0 (by omega)
    have f2 := fits_rows ss cs c hc m (k + 1) (by rw [hl]; congr 1; omega) (fun i hi => by have := h (i + 1) (by omega); rwa [show k + (i + 1) = k + 1 + i by omega] at this)
    have := f1.append f2
    rw [Nat.add_zero, Nat.succ_mul, ← List.drop_drop, List.take_append_drop] at this
    exact this
theorem fits_of_trod : ∀ (n fuel : Nat) (t : TypeId) (cs : List Value) (x : DataW H × List MemPlace) (ss : List Sh), shapes P n t = some ss → DataW.trod enc P w base spare held fuel t cs = some x → Fits w ss cs
  | 0, _, _, _, _, _, h, _ => by simp [shapes] at h
  | n + 1, fuel, t, cs, x, ss, h, hx => by
    have ih := fun fuel t cs x ss => fits_of_trod n fuel t cs x ss
    unfold shapes at h
    split at h
    · rename_i ht
      cases h
      obtain ⟨b, rfl, _⟩ := DataW.trod_bool ht hx
      simp [Fits, Fit1]
    · rename_i k ht
      cases h
      obtain ⟨m, rfl, _, hw⟩ := DataW.trod_int ht hx
      simp [Fits, Fit1, hw]
    · rename_i ht
      cases h
      obtain ⟨s, rfl, _, hs⟩ := DataW.trod_string ht hx
      simp [Fits, Fit1, hs]
    · rename_i e ht
      obtain ⟨s1, hs1, h⟩ := Option.bind_eq_some_iff.1 h
      split at h
      · rename_i hlen
        cases h
        rcases open_slice ht hx with ⟨rfl, _⟩ | ⟨a, len, cap, m, k, D, Pl, rfl, _, hl, hm, hm2, _, hel⟩
        · simp [Fits, Fit1]
        · simp only [Fits, Fit1, and_true]
          refine .inr ⟨a, len, cap, rfl, hl, hm, fun i hi => ?_⟩
          obtain ⟨cs', hc, ht'⟩ := hel i (by split at hm2 <;> omega)
          obtain ⟨_, hcl, hcc⟩ := World.cells?_some hc
          refine ⟨cs', fun j hj => ?_, ih _ _ _ _ _ hs1 ht'⟩
          rw [hlen]
          have := hcc j (by omega)
          rw [← this, addr_addS]
      · cases h
    · rename_i fs ht
      obtain ⟨xs, m, rfl, _, hl, hxl, hf⟩ := DataW.trod_struct ht hx
      have := fits_fields (w := w) n m (fun t cs x ss => ih m t cs x ss) (P.cellsOf t) cs hl fs.toList 0 ss h (fun f hfm => by
        obtain ⟨i, hi, rfl⟩ := List.mem_iff_getElem.1 hfm
        have hi' : i < fs.size := by simpa using hi
        have h1 := hf i fs[i] (by simp [hi'])
        rw [List.getElem?_eq_getElem (by omega)] at h1
        exact ⟨_, by simpa using h1⟩)
      simpa using this
    · rename_i m e ht
      obtain ⟨s1, hs1, h⟩ := Option.bind_eq_some_iff.1 h
      split at h
      · rename_i hlen
        cases h
        obtain ⟨xs, k, rfl, _, hl, hxl, hf⟩ := DataW.trod_array ht hx
        have := fits_rows (w := w) s1 cs (P.cellsOf e) hlen.1 m 0 (by rw [hl, ← hlen.2, Nat.zero_add]) (fun i hi => by
          rw [Nat.zero_add]
          have h1 := hf i hi
          rw [List.getElem?_eq_getElem (by omega)] at h1
          exact ih _ _ _ _ _ hs1 h1)
        simpa using this
      · cases h
    · cases h
theorem fits_of_Trod {t : TypeId} {v : Value} {d : DataW H} {ps : List MemPlace} {ss : List Sh} (n : Nat) (h : shapes P n t = some ss) (hx : DataW.Trod enc P w base spare held t v d ps) : Fits w ss v.cells.toList := by
  obtain ⟨fuel, hf⟩ := hx
  exact fits_of_trod n fuel t _ _ _ h hf
end
theorem Fits.one {w : World} {s : Sh} {v : Value} (h : Fits w [s] [v]) : Fit1 w s v := by
  unfold Fits at h
  exact h.1
theorem fits_ints {w : World} {k : IntKind} : ∀ {n : Nat} {l : List Value}, Fits w (List.replicate n (.int k)) l → ∃ zs : List Int, l = zs.map (Value.int k) ∧ zs.length = n ∧ ∀ z ∈ zs, (Lit.int k z).wf = true
  | 0, [], _ => ⟨[], rfl, rfl, by simp⟩
  | 0, _ :: _, h => by simp [Fits] at h
  | n + 1, [], h => by simp [List.replicate_succ, Fits] at h
  | n + 1, v :: l, h => by
    rw [List.replicate_succ] at h
    unfold Fits at h
    obtain ⟨h1, h2⟩ := h
    unfold Fit1 at h1
    obtain ⟨z, rfl, hz⟩ := h1
    obtain ⟨zs, rfl, hl, hzs⟩ := fits_ints h2
    exact ⟨z :: zs, rfl, by simp [hl], fun x hx => by rcases List.mem_cons.1 hx with rfl | hx; exact hz; exact hzs x hx⟩
theorem okWide_arr {P : Program} {w : World} {r : Reach} {base : Nat} {t : TypeId} {v : Value} {n : Nat} {e : TypeId} (ht : P.underlying t = some (.array n e)) (h : Value.okWide P w r base t v) : ∃ cs, v = .agg cs ∧ cs.size = P.cellsOf t := by
  unfold Value.okWide at h
  rw [ht] at h
  obtain ⟨cs, h1, h2, _⟩ := h
  exact ⟨cs, h1, h2⟩
/-- What an argument is: one cell, or a row of cells. -/
def FitsV (w : World) : List Sh → Bool → Value → Prop
  | ss, true, v => ∃ cs : Array Value, v = .agg cs ∧ Fits w ss cs.toList
  | [s], false, v => Fit1 w s v
  | _, false, _ => False
theorem choose_list {α : Type} {Q : Nat → α → Prop} : ∀ (n : Nat), (∀ i, i < n → ∃ x, Q i x) → ∃ l : List α, l.length = n ∧ ∀ i x, l[i]? = some x → Q i x
  | 0, _ => ⟨[], rfl, fun i x h => by simp at h⟩
  | n + 1, h => by
    obtain ⟨l, hl, hq⟩ := choose_list n (fun i hi => h i (by omega))
    obtain ⟨x, hx⟩ := h n (by omega)
    refine ⟨l ++ [x], by simp [hl], fun i y hy => ?_⟩
    rcases Nat.lt_or_ge i n with hi | hi
    · rw [List.getElem?_append_left (by omega)] at hy
      exact hq i y hy
    · rw [List.getElem?_append_right (by omega)] at hy
      rcases Nat.lt_or_ge (i - l.length) 1 with h1 | h1
      · have : i = n := by omega
        subst this
        rw [show i - l.length = 0 by omega] at hy
        cases hy
        exact hx
      · rw [List.getElem?_eq_none (by simpa using h1)] at hy
        cases hy
end Go.Proofs.Ytdhgcmodlikckaa
