/- A part of a block's cells read as one value. -/
import Derived.Test.YtdhgcmodlikckaaRowat
import Derived.Great.FillDense
namespace Go.Proofs.Ytdhgcmodlikckaa
open Go.RowKit
set_option linter.unusedVariables false
set_option linter.unusedSimpArgs false
theorem add_at (g off j : Nat) : (⟨g, off, none⟩ : Addr).add j = ⟨g, off + j, none⟩ := by unfold Addr.add; split <;> simp_all
theorem run_loadVar_part {P : Program} (w : World) (g off : Nat) (ty : TypeId) (ds : List Value) (d : TypeDesc) (hg : ∀ j v, ds[j]? = some v → w.cell? ⟨g, off + j, none⟩ = some v)
    (hu : P.underlying ty = some d) (hd : (match d with | .struct _ | .array _ _ => true | _ => false) = true) (hi : (P.info? ty).map (·.size) = some ds.length) :
    (loadVar ty ⟨g, off, none⟩).run P w = .ok (.agg ds.toArray) w := by
  have hl : (loadCells ⟨g, off, none⟩ ds.length).run P w = .ok ds.toArray w :=
    run_loadCells_list (P := P) w ⟨g, off, none⟩ ds (fun j v hv => by rw [add_at]; exact hg j v hv)
  cases hq : P.info? ty with
  | none => simp [hq] at hi
  | some i =>
    have hs : i.size = ds.length := by simpa [hq] using hi
    have hagg : (isAgg ty).run P w = .ok true w := by
      unfold isAgg
      rw [Sem.run_bind, run_underlying hu w]
      cases d <;> simp_all
    simp [loadVar, Sem.run_bind, hagg, sizeOf, typeInfo, hq, hs, hl]
theorem wpList_load_part {P : Program} {ops : Array Oper} {rest : List Oper} {o : Oper} {a : Act} {w : World} {Q : Exit → Act → World → Prop} (hgd : o.guard = none) (ty : TypeId) (x : Operand) (ho : o.op = .load ty x)
    (g off : Nat) (hx : a.eval x = .pointer (some ⟨g, off, none⟩)) (ds : List Value) (d : TypeDesc) (hg : ∀ j v, ds[j]? = some v → w.cell? ⟨g, off + j, none⟩ = some v)
    (hu : P.underlying ty = some d) (hd : (match d with | .struct _ | .array _ _ => true | _ => false) = true) (hi : (P.info? ty).map (·.size) = some ds.length)
    (h : wpList P ops Q rest (a.put o.dst (.agg ds.toArray)) w) : wpList P ops Q (o :: rest) a w :=
  wpList_plain hgd fun _ hK => by
    unfold Oper.wp execOp
    simp only [ho, hx, Instr.loadAt, Instr.sureAddr, Sem.run_bind, Sem.run_pure, Result.andThen_ok, run_loadVar_part w g off ty ds d hg hu hd hi]
    exact hK _ _ h
/-- The same for an operation under a guard that holds. -/
theorem wpList_load_part_if {P : Program} {ops : Array Oper} {rest : List Oper} {o : Oper} {a : Act} {w : World} {Q : Exit → Act → World → Prop} (hw : Region.wanted o (yielded ops a.tmps) = true) (ty : TypeId) (x : Operand) (ho : o.op = .load ty x)
    (g off : Nat) (hx : a.eval x = .pointer (some ⟨g, off, none⟩)) (ds : List Value) (d : TypeDesc) (hg : ∀ j v, ds[j]? = some v → w.cell? ⟨g, off + j, none⟩ = some v)
    (hu : P.underlying ty = some d) (hd : (match d with | .struct _ | .array _ _ => true | _ => false) = true) (hi : (P.info? ty).map (·.size) = some ds.length)
    (h : wpList P ops Q rest (a.put o.dst (.agg ds.toArray)) w) : wpList P ops Q (o :: rest) a w :=
  wpList_step fun _ hK => by
    rw [if_pos hw]
    unfold Oper.wp execOp
    simp only [ho, hx, Instr.loadAt, Instr.sureAddr, Sem.run_bind, Sem.run_pure, Result.andThen_ok, run_loadVar_part w g off ty ds d hg hu hd hi]
    exact hK _ _ h
/-- An operation of a quiet walk whose run is known in every world of the class. -/
theorem wpQuiet_run {P : Program} {ops : Array Oper} {C : World → Prop} {Q : Act → Prop} {a : Act} {o : Oper} {rest : List Oper} (hw : Region.wanted o (yielded ops a.tmps) = true) (v : Value)
    (h : ∀ w, C w → (execOp a.eval o).run P w = .ok (.value v) w) (hk : wpQuiet P ops C Q rest (a.put o.dst v)) : wpQuiet P ops C Q (o :: rest) a := by
  unfold wpQuiet
  rw [if_pos hw]
  refine ⟨v, fun w hC => ?_, hk⟩
  unfold Oper.quietAt
  rw [h w hC]
  exact ⟨rfl, rfl⟩
theorem wpQuiet_load_part {P : Program} {ops : Array Oper} {C : World → Prop} {Q : Act → Prop} {a : Act} {o : Oper} {rest : List Oper} (hw : Region.wanted o (yielded ops a.tmps) = true) (ty : TypeId) (x : Operand) (ho : o.op = .load ty x)
    (g off : Nat) (hx : a.eval x = .pointer (some ⟨g, off, none⟩)) (ds : List Value) (d : TypeDesc) (hg : ∀ w, C w → ∀ j v, ds[j]? = some v → w.cell? ⟨g, off + j, none⟩ = some v)
    (hu : P.underlying ty = some d) (hd : (match d with | .struct _ | .array _ _ => true | _ => false) = true) (hi : (P.info? ty).map (·.size) = some ds.length)
    (hk : wpQuiet P ops C Q rest (a.put o.dst (.agg ds.toArray))) : wpQuiet P ops C Q (o :: rest) a :=
  wpQuiet_run hw _ (fun w hC => by
    unfold execOp
    simp only [ho, hx, Instr.loadAt, Instr.sureAddr, Sem.run_bind, Sem.run_pure, Result.andThen_ok, run_loadVar_part w g off ty ds d (hg w hC) hu hd hi]) hk
/-! ### A struct built of whole parts -/
/-- Parts lie side by side, from place i and offset off on. -/
def LaidAt (pl : Nat → Option (Nat × Nat)) : List Value → Nat → Nat → Prop
  | [], _, _ => True
  | v :: vs, i, off => pl i = some (off, v.cells.size) ∧ LaidAt pl vs (i + 1) (off + v.cells.size)
def flatV (vs : List Value) : List Value := vs.flatMap fun v => v.cells.toList
theorem foldl_splice (off : Nat) (l : List Value) (cs : Array Value) (h : off + l.length ≤ cs.size) :
    (l.zipIdx.foldl (fun cs (x : Value × Nat) => cs.setIfInBounds (off + x.2) x.1) cs) = (cs.toList.take off ++ l ++ cs.toList.drop (off + l.length)).toArray := by
  obtain ⟨h1, h2⟩ := Great.foldl_set off l 0 cs
  apply Array.ext_getElem?
  intro k
  rw [h2 k]
  simp only [Nat.add_zero, List.getElem?_toArray]
  by_cases hk : k < off
  · rw [if_neg (by omega), List.append_assoc, List.getElem?_append_left (by simp; omega), List.getElem?_take, if_pos hk]
    simp
  · by_cases hk2 : k < off + l.length
    · rw [if_pos (by omega), List.append_assoc, List.getElem?_append_right (by simp; omega), List.getElem?_append_left (by simp; omega)]
      congr 1
      simp
      omega
    · rw [if_neg (by omega), List.getElem?_append_right (by simp; omega), List.getElem?_drop]
      simp only [List.length_append, List.length_take, Array.length_toList]
      rw [show off + l.length + (k - (min off cs.size + l.length)) = k by omega]
      simp
theorem fill_parts (pl : Nat → Option (Nat × Nat)) : ∀ (vs : List Value) (i off : Nat) (cells : Array Value), LaidAt pl vs i off → off + (flatV vs).length ≤ cells.size →
    Instr.fill pl cells ((vs.zipIdx i).map fun x => (x.2, x.1)) = some (cells.toList.take off ++ flatV vs ++ cells.toList.drop (off + (flatV vs).length)).toArray
  | [], i, off, cells, _, _ => by simp [Instr.fill, flatV]
  | v :: vs, i, off, cells, h, hle => by
    obtain ⟨h1, h2⟩ := h
    have e : flatV (v :: vs) = v.cells.toList ++ flatV vs := by simp [flatV]
    rw [e] at hle ⊢
    simp only [List.length_append, Array.length_toList] at hle
    simp only [List.zipIdx_cons, List.map_cons]
    unfold Instr.fill
    simp only [h1]
    rw [if_neg (by simp; omega)]
    have e2 : (v.cells.zipIdx.foldl (fun cs (x : Value × Nat) => cs.setIfInBounds (off + x.2) x.1) cells) = (v.cells.toList.zipIdx.foldl (fun cs (x : Value × Nat) => cs.setIfInBounds (off + x.2) x.1) cells) := by
      rw [← Array.foldl_toList, Array.toList_zipIdx]
    show Instr.fill pl (v.cells.zipIdx.foldl (fun cs (x : Value × Nat) => cs.setIfInBounds (off + x.2) x.1) cells) _ = _
    rw [e2, foldl_splice off _ _ (by simp; omega)]
    rw [fill_parts pl vs (i + 1) (off + v.cells.size) _ h2 (by simp; omega)]
    congr 2
    simp only [Array.length_toList, List.length_append]
    rw [List.take_append_of_le_length (by simp; omega), List.take_of_length_le (by simp; omega)]
    rw [List.drop_append, List.drop_of_length_le (by simp; omega), List.drop_drop]
    simp only [List.length_append, List.length_take, Array.length_toList, List.nil_append, List.append_assoc]
    congr 4
    omega
theorem built_struct {P : Program} {t : TypeId} (z : Array Value) (places : List (Nat × Nat)) (hz : ((P.info? t).bind (·.zero)).map Value.cells = some z)
    (hp : (match P.underlying t with | some (.struct fs) => fs.toList.mapM (fun f => (P.info? f.type).map fun i => (f.offset, i.size)) | _ => none) = some places)
    (vs : List Value) (hl : LaidAt (places.toArray[·]?) vs 0 0) (hn : (flatV vs).length = z.size) :
    P.built t ((vs.zipIdx).map fun x => (x.2, x.1)) = some (flatV vs).toArray := by
  unfold Program.built
  cases hi : P.info? t with
  | none => rw [hi] at hz; simp at hz
  | some it =>
    rw [hi] at hz
    cases hu : P.underlying t with
    | none => rw [hu] at hp; simp at hp
    | some d =>
      rw [hu] at hp
      cases d <;> simp at hp
      simp only [Option.bind_some] at hz
      cases hz0 : it.zero with
      | none => rw [hz0] at hz; simp at hz
      | some z0 =>
        rw [hz0] at hz
        simp only [Option.map_some, Option.some.injEq] at hz
        simp only [hp, hz0, hz]
        rw [fill_parts _ vs 0 0 z hl (by omega)]
        simp [hn]
theorem wpQuiet_build_parts {P : Program} {ops : Array Oper} {C : World → Prop} {Q : Act → Prop} {a : Act} {o : Oper} {rest : List Oper} (hw : Region.wanted o (yielded ops a.tmps) = true) (t : TypeId) (parts : Array (Nat × Operand)) (ho : o.op = .build t parts)
    (vs : List Value) (hv : (parts.toList.map fun (i, x) => (i, a.eval x)) = (vs.zipIdx).map fun x => (x.2, x.1))
    (z : Array Value) (places : List (Nat × Nat)) (hz : ((P.info? t).bind (·.zero)).map Value.cells = some z)
    (hp : (match P.underlying t with | some (.struct fs) => fs.toList.mapM (fun f => (P.info? f.type).map fun i => (f.offset, i.size)) | _ => none) = some places)
    (hl : LaidAt (places.toArray[·]?) vs 0 0) (hn : (flatV vs).length = z.size)
    (hk : wpQuiet P ops C Q rest (a.put o.dst (.agg (flatV vs).toArray))) : wpQuiet P ops C Q (o :: rest) a :=
  wpQuiet_run hw _ (fun w hC => by
    unfold execOp
    have hb := built_struct z places hz hp vs hl hn
    rw [← hv] at hb
    have hb2 : P.built t (parts.map fun (i, x) => (i, a.eval x)).toList = some (flatV vs).toArray := by rw [Array.toList_map]; exact hb
    simp only [ho, Sem.run_bind, run_build w t _ _ hb2, Result.andThen_ok]
    rfl) hk
end Go.Proofs.Ytdhgcmodlikckaa
