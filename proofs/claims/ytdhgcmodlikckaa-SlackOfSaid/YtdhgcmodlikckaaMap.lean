/- A map in memory, known entry by entry: looked up, written, deleted, measured. -/
import Derived.Test.YtdhgcmodlikckaaBut
import Derived.MapKept
import Derived.Tactics
namespace Go.Proofs.Ytdhgcmodlikckaa
open Go.RowKit
set_option linter.unusedVariables false
set_option linter.unusedSimpArgs false
set_option linter.unusedSectionVars false

section
variable {κ : Type} [DecidableEq κ]
/-- An entry: its key, its value, when it came. -/
abbrev Ent (κ : Type) := κ × Value × Nat
def Ent.obj (enc : κ → Value) (p : Ent κ) : MapEntry := ⟨enc p.1, p.2.1, p.2.2⟩
def mapObj (enc : κ → Value) (L : List (Ent κ)) (clock : Nat) : Obj := .map (L.map (Ent.obj enc)).toArray clock
/-- Block b holds just this map. -/
def MapAt (w : World) (b : Nat) (enc : κ → Value) (L : List (Ent κ)) (clock : Nat) : Prop := w.heap[b]? = some (mapObj enc L clock)
/-- The first entry of a key, and its place. -/
def findL (k : κ) : List (Ent κ) → Nat → Option (Nat × Value)
  | [], _ => none
  | p :: l, i => if k = p.1 then some (i, p.2.1) else findL k l (i + 1)
def valL (k : κ) (L : List (Ent κ)) : Option Value := (findL k L 0).map (·.2)
/-- What is asked of a key's type. -/
structure KeyEnc (P : Program) (kt : TypeId) (enc : κ → Value) : Prop where
  check : ∀ (e : Bool) (k : κ) (w : World), (Instr.checkKey e 10000 kt (enc k)).run P w = .ok () w
  find : ∀ (k : κ) (L : List (Ent κ)) (w : World), (Instr.findKey kt (enc k) (L.map (Ent.obj enc))).run P w = .ok (findL k L 0) w
  same : ∀ k : κ, Instr.sameBits 10000 (enc k) (enc k) = true
theorem findL_none {k : κ} {L : List (Ent κ)} {i : Nat} : findL k L i = none ↔ ∀ p ∈ L, p.1 ≠ k := by
  induction L generalizing i with
  | nil => simp [findL]
  | cons p l ih =>
    simp only [findL]
    by_cases h : k = p.1
    · simp [h]
    · rw [if_neg h, ih]
      simp [Ne.symm h]
theorem findL_some {k : κ} {L : List (Ent κ)} {i j : Nat} {v : Value} (h : findL k L i = some (j, v)) : i ≤ j ∧ ∃ n, L[j - i]? = some (k, v, n) := by
  induction L generalizing i with
  | nil => simp [findL] at h
  | cons p l ih =>
    simp only [findL] at h
    by_cases hk : k = p.1
    · rw [if_pos hk] at h
      injection h with h
      obtain ⟨rfl, rfl⟩ := Prod.mk.inj h
      exact ⟨Nat.le_refl _, p.2.2, by simp [hk]⟩
    · rw [if_neg hk] at h
      obtain ⟨h1, n, h2⟩ := ih h
      refine ⟨by omega, n, ?_⟩
      rw [show j - i = (j - (i + 1)) + 1 by omega, List.getElem?_cons_succ]
      exact h2
theorem findL_shift (k : κ) (L : List (Ent κ)) (i : Nat) : (findL k L i).map (·.2) = (findL k L 0).map (·.2) := by
  induction L generalizing i with
  | nil => rfl
  | cons p l ih =>
    simp only [findL]
    split
    · rfl
    · rw [ih, ih 1]
theorem valL_nil (k : κ) : valL k [] = none := rfl
theorem valL_cons (k : κ) (p : Ent κ) (l : List (Ent κ)) : valL k (p :: l) = if k = p.1 then some p.2.1 else valL k l := by
  unfold valL
  simp only [findL]
  split
  · rfl
  · exact findL_shift _ _ _
theorem valL_none {k : κ} {L : List (Ent κ)} : valL k L = none ↔ ∀ p ∈ L, p.1 ≠ k := by
  unfold valL
  rw [Option.map_eq_none_iff, findL_none]
theorem valL_append (k : κ) (L M : List (Ent κ)) : valL k (L ++ M) = (valL k L).or (valL k M) := by
  induction L with
  | nil => simp [valL_nil]
  | cons p l ih =>
    simp only [List.cons_append, valL_cons]
    split
    · rfl
    · exact ih
/-- A key's entry is another one, or comes. -/
def updL (k : κ) (v : Value) (clock : Nat) (L : List (Ent κ)) : List (Ent κ) :=
  match findL k L 0 with
  | some (i, _) => L.modify i fun p => (k, v, p.2.2)
  | none => L ++ [(k, v, clock)]
def updC (k : κ) (clock : Nat) (L : List (Ent κ)) : Nat := match findL k L 0 with | some _ => clock | none => clock + 1
def delL (k : κ) (L : List (Ent κ)) : List (Ent κ) := match findL k L 0 with | some (i, _) => L.eraseIdx i | none => L
theorem updL_cons (k : κ) (v : Value) (c : Nat) (p : Ent κ) (l : List (Ent κ)) : updL k v c (p :: l) = if k = p.1 then (k, v, p.2.2) :: l else p :: updL k v c l := by
  unfold updL
  simp only [findL]
  split
  · rename_i h
    split at h
    · injection h with h
      obtain ⟨rfl, rfl⟩ := Prod.mk.inj h
      rename_i hk
      rw [if_pos hk]
      rfl
    · rename_i i _ hk
      obtain ⟨h1, n, h2⟩ := findL_some h
      rw [if_neg hk]
      have e := findL_shift k l 1
      rw [h] at e
      cases h3 : findL k l 0 with
      | none => rw [h3] at e; simp at e
      | some q =>
        obtain ⟨j, v'⟩ := q
        have hj : i = j + 1 := by
          clear h1 h2 e
          have gen : ∀ (l : List (Ent κ)) (a i j : Nat) (v v' : Value), findL k l (a + 1) = some (i, v) → findL k l a = some (j, v') → i = j + 1 := by
            intro l
            induction l with
            | nil => intro a i j v v' h; simp [findL] at h
            | cons p l ih =>
              intro a i j v v' h h3
              simp only [findL] at h h3
              split at h
              · rename_i hk
                rw [if_pos hk] at h3
                injection h with h; injection h3 with h3
                have := congrArg Prod.fst h
                have := congrArg Prod.fst h3
                simp at *
                omega
              · rename_i hk
                rw [if_neg hk] at h3
                exact ih (a + 1) i j v v' h h3
          exact gen l 0 i j _ _ h h3
        subst hj
        rfl
  · rename_i h
    split at h
    · simp at h
    · rename_i hk
      rw [if_neg hk]
      have e := findL_shift k l 1
      rw [h] at e
      cases h3 : findL k l 0 with
      | none => rfl
      | some q => rw [h3] at e; simp at e
theorem valL_upd (k k' : κ) (v : Value) (c : Nat) (L : List (Ent κ)) : valL k' (updL k v c L) = if k' = k then some v else valL k' L := by
  induction L with
  | nil =>
    simp only [updL, findL, List.nil_append, valL_cons, valL_nil]
  | cons p l ih =>
    rw [updL_cons]
    by_cases h : k = p.1
    · rw [if_pos h, valL_cons, valL_cons]
      by_cases h2 : k' = k
      · simp [h2]
      · simp only [h2, if_false]
        rw [if_neg (by rw [← h]; exact h2)]
    · rw [if_neg h, valL_cons, valL_cons, ih]
      by_cases h2 : k' = k
      · subst h2
        rw [if_neg h]
        simp
      · simp [h2]
end
def setB (w : World) (b : Nat) (o : Obj) : World := { w with heap := w.heap.setIfInBounds b o }
theorem run_getObj_some {P : Program} {w : World} {r : Nat} {es : Array MapEntry} {c : Nat} (hb : w.heap[r]? = some (.map es c)) : (getObj r).run P w = .ok (.map es c) w := by
  simp [getObj, Sem.run, hb]
theorem run_setObj_some {P : Program} {w : World} {r : Nat} {es : Array MapEntry} {c : Nat} (o' : Obj) (hb : w.heap[r]? = some (.map es c)) : (setObj r o').run P w = .ok () (setB w r o') := by
  simp [setObj, Sem.run, hb, setB]
theorem map_erase {α β : Type} (f : α → β) : ∀ (l : List α) (j : Nat), (l.eraseIdx j).map f = (l.map f).eraseIdx j
  | [], _ => by simp
  | _ :: _, 0 => by simp
  | a :: l, j + 1 => by simp [map_erase f l j]
theorem heap_setB_at {w : World} {b : Nat} {o : Obj} (o' : Obj) (h : w.heap[b]? = some o) : (setB w b o').heap[b]? = some o' := by
  have := block_lt h
  simp [setB, this]
theorem heap_setB_far (w : World) {b g : Nat} (o' : Obj) (h : g ≠ b) : (setB w b o').heap[g]? = w.heap[g]? := by
  simp [setB, Array.getElem?_setIfInBounds, Ne.symm h]
theorem but_setB (w : World) (b : Nat) (o : Obj) : But b w (setB w b o) := ⟨rfl, rfl, rfl, by simp [setB], fun k _ hk => heap_setB_far w o hk⟩
section
variable {κ : Type} [DecidableEq κ] {P : Program} {w : World} {b : Nat} {enc : κ → Value} {L : List (Ent κ)} {clock : Nat} {kt et mt : TypeId}
theorem MapAt.lt (h : MapAt w b enc L clock) : b < w.heap.size := block_lt h
theorem MapAt.ext {w' : World} (h : MapAt w b enc L clock) (hb : Below w.heap.size w w') : MapAt w' b enc L clock := (hb.block b h.lt).trans h
theorem MapAt.but {w' : World} {g : Nat} (h : MapAt w b enc L clock) (hb : But g w w') (hg : b ≠ g) : MapAt w' b enc L clock := (hb.block b h.lt hg).trans h
theorem MapAt.alloc (h : MapAt w b enc L clock) (o : Obj) : MapAt (w.alloc o) b enc L clock := (Below.heap_alloc w o b h.lt).trans h
theorem MapAt.drew (h : MapAt w b enc L clock) : MapAt w.drew b enc L clock := h
theorem MapAt.new (w : World) (enc : κ → Value) : MapAt (w.alloc (.map #[] 0)) w.heap.size enc ([] : List (Ent κ)) 0 := heap_alloc_new w _
theorem MapAt.set (h : MapAt w b enc L clock) (L' : List (Ent κ)) (c' : Nat) : MapAt (setB w b (mapObj enc L' c')) b enc L' c' := heap_setB_at _ h
theorem run_lookup_at (K : KeyEnc P kt enc) (ht : P.underlying mt = some (.map kt et)) {z : Value} (hz : (zeroValue et).run P w = .ok z w) (h : MapAt w b enc L clock) (k : κ) (c : Bool) :
    (Instr.lookup mt (.map (some b)) (enc k) c).run P w = .ok (if c then .tuple #[(valL k L).getD z, .bool (valL k L).isSome] else (valL k L).getD z) w := by
  have hg : (getObj b).run P w = .ok (.map (L.map (Ent.obj enc)).toArray clock) w := run_getObj_some h
  unfold Instr.lookup
  simp only [Sem.run_bind, run_underlying ht, Result.andThen_ok, hg, Sem.run_pure, K.check, K.find]
  unfold valL
  cases hf : findL k L 0 with
  | none => cases c <;> simp [hz]
  | some q => cases c <;> simp
theorem run_update_at (K : KeyEnc P kt enc) (ht : P.underlying mt = some (.map kt et)) (h : MapAt w b enc L clock) (k : κ) (x : Value) :
    (Instr.mapUpdate mt (.map (some b)) (enc k) x).run P w = .ok () (setB w b (mapObj enc (updL k x clock L) (updC k clock L))) := by
  have hg : (getObj b).run P w = .ok (.map (L.map (Ent.obj enc)).toArray clock) w := run_getObj_some h
  have hs : ∀ o, (setObj b o).run P w = .ok () (setB w b o) := fun o => run_setObj_some o h
  unfold Instr.mapUpdate
  simp only [Sem.run_bind, run_underlying ht, Result.andThen_ok, hg, K.check, K.find]
  cases hf : findL k L 0 with
  | none =>
    simp only [hs]
    have e1 : updL k x clock L = L ++ [(k, x, clock)] := by unfold updL; rw [hf]
    have e2 : updC k clock L = clock + 1 := by unfold updC; rw [hf]
    rw [e1, e2]
    simp [mapObj, Ent.obj]
  | some q =>
    obtain ⟨i, v⟩ := q
    obtain ⟨_, n, hi⟩ := findL_some hf
    simp only [Nat.sub_zero] at hi
    have e1 : updL k x clock L = L.modify i fun p => (k, x, p.2.2) := by unfold updL; rw [hf]
    have e2 : updC k clock L = clock := by unfold updC; rw [hf]
    have e3 : (((L.map (Ent.obj enc)).toArray[i]?).map (·.key)).getD (enc k) = enc k := by
      simp [hi, Ent.obj]
    have e4 : (Instr.keyThatStays (enc k) (enc k)).run P w = .ok (enc k) w := by
      unfold Instr.keyThatStays
      rw [if_pos (K.same k)]
      rfl
    simp only [e3, Sem.run_bind, e4, Result.andThen_ok, hs, e1, e2]
    congr 2
    unfold mapObj
    congr 1
    apply Array.ext_getElem?
    intro j
    simp only [List.modify_toArray, List.getElem?_toArray, List.getElem?_modify, List.getElem?_map]
    cases L[j]? with
    | none => simp
    | some p =>
      by_cases hij : i = j
      · simp [hij, Ent.obj]
      · simp [hij, Ent.obj]
theorem run_delete_at (K : KeyEnc P kt enc) (ht : P.underlying mt = some (.map kt et)) (h : MapAt w b enc L clock) (k : κ) (ty : TypeId) :
    (Builtin.delete_ #[mt, kt] ty #[.map (some b), enc k]).run P w = .ok (.tuple #[]) (setB w b (mapObj enc (delL k L) clock)) := by
  have hg : (getObj b).run P w = .ok (.map (L.map (Ent.obj enc)).toArray clock) w := run_getObj_some h
  have hs : ∀ o, (setObj b o).run P w = .ok () (setB w b o) := fun o => run_setObj_some o h
  unfold Builtin.delete_
  simp only [Sem.run_bind, run_underlying ht, Result.andThen_ok, hg, K.check, K.find]
  cases hf : findL k L 0 with
  | none =>
    have e1 : delL k L = L := by unfold delL; rw [hf]
    simp [hs, e1, mapObj, hf, run_underlying ht, hg, K.check, K.find, Sem.run_bind]
  | some q =>
    obtain ⟨i, v⟩ := q
    have e1 : delL k L = L.eraseIdx i := by unfold delL; rw [hf]
    have e2 : ((L.map (Ent.obj enc)).toArray.eraseIdxIfInBounds i) = ((L.eraseIdx i).map (Ent.obj enc)).toArray := by
      apply Array.ext'
      simp [map_erase]
    simp [hs, e1, mapObj, hf, run_underlying ht, hg, K.check, K.find, Sem.run_bind, map_erase]
/-! ### At the operation -/
variable {ops : Array Oper} {rest : List Oper} {o : Oper} {a : Act} {Q : Exit → Act → World → Prop}
theorem wpList_lookup_at (hg : o.guard = none) (m x : Operand) (hop : o.op = Op.lookup mt m x false) (K : KeyEnc P kt enc) (ht : P.underlying mt = some (.map kt et)) {z : Value} (hz : (zeroValue et).run P w = .ok z w) (h : MapAt w b enc L clock)
    (hm : a.eval m = .map (some b)) (k : κ) (hx : a.eval x = enc k) (hK : wpList P ops Q rest (a.put o.dst ((valL k L).getD z)) w) : wpList P ops Q (o :: rest) a w := by
  refine wpList_plain hg fun K' hK' => ?_
  have hrun := run_lookup_at K ht hz h k false
  unfold Oper.wp
  simp only [Bool.false_eq_true, if_false] at hrun
  simp [execOp, hop, hm, hx, hrun, Result.andThen]
  exact hK' _ _ hK
theorem wpList_lookup_ok_at (hg : o.guard = none) (m x : Operand) (hop : o.op = Op.lookup mt m x true) (K : KeyEnc P kt enc) (ht : P.underlying mt = some (.map kt et)) {z : Value} (hz : (zeroValue et).run P w = .ok z w) (h : MapAt w b enc L clock)
    (hm : a.eval m = .map (some b)) (k : κ) (hx : a.eval x = enc k) (hK : wpList P ops Q rest (a.put o.dst (.tuple #[(valL k L).getD z, .bool (valL k L).isSome])) w) : wpList P ops Q (o :: rest) a w := by
  refine wpList_plain hg fun K' hK' => ?_
  have hrun := run_lookup_at K ht hz h k true
  unfold Oper.wp
  simp only [if_true] at hrun
  simp [execOp, hop, hm, hx, hrun, Result.andThen]
  exact hK' _ _ hK
theorem wpList_update_at (hg : o.guard = none) (m x y : Operand) (hop : o.op = Op.mapUpdate mt m x y) (K : KeyEnc P kt enc) (ht : P.underlying mt = some (.map kt et)) (h : MapAt w b enc L clock)
    (hm : a.eval m = .map (some b)) (k : κ) (hx : a.eval x = enc k) (v : Value) (hy : a.eval y = v) (hK : wpList P ops Q rest (a.put o.dst undef) (setB w b (mapObj enc (updL k v clock L) (updC k clock L)))) : wpList P ops Q (o :: rest) a w := by
  refine wpList_plain hg fun K' hK' => ?_
  have hrun := run_update_at K ht h k v
  unfold Oper.wp
  simp [execOp, hop, hm, hx, hy, hrun, Result.andThen]
  exact hK' _ _ hK
theorem wpList_insert_at (hg : o.guard = none) (m x y : Operand) (hop : o.op = Op.insert mt m x y) (K : KeyEnc P kt enc) (ht : P.underlying mt = some (.map kt et)) (h : MapAt w b enc L clock)
    (hm : a.eval m = .map (some b)) (k : κ) (hx : a.eval x = enc k) (v : Value) (hy : a.eval y = v) (hK : wpList P ops Q rest (a.put o.dst undef) (setB w b (mapObj enc (updL k v clock L) (updC k clock L)))) : wpList P ops Q (o :: rest) a w := by
  refine wpList_plain hg fun K' hK' => ?_
  have hrun := run_update_at K ht h k v
  unfold Oper.wp
  simp [execOp, hop, hm, hx, hy, hrun, Result.andThen]
  exact hK' _ _ hK
theorem wpList_delete_at (hg : o.guard = none) (m x : Operand) (hop : o.op = Op.call { callee := Callee.builtin Builtin.delete, args := #[m, x], argTypes := #[mt, kt] }) (K : KeyEnc P kt enc) (ht : P.underlying mt = some (.map kt et)) (h : MapAt w b enc L clock)
    (hm : a.eval m = .map (some b)) (k : κ) (hx : a.eval x = enc k) (hK : wpList P ops Q rest (a.put o.dst (.tuple #[])) (setB w b (mapObj enc (delL k L) clock))) : wpList P ops Q (o :: rest) a w := by
  refine wpList_plain hg fun K' hK' => ?_
  have hrun := run_delete_at K ht h k o.type
  unfold Oper.wp
  simp [execOp, hop, resolve, invoke, builtin, hm, hx, hrun, Result.andThen]
  exact hK' _ _ hK
end
/-! ### Keys -/
theorem keyEnc_int {P : Program} {kt : TypeId} {kd kd' : IntKind} (hk : P.underlying kt = some (.int kd')) : KeyEnc P kt (fun a : Int => Value.int kd a) where
  check e k w := by
    unfold Instr.checkKey
    simp [run_underlying hk]
  find k L w := by
    have h : ∀ (L : List (Ent Int)) (i : Nat), Instr.findNow (.int kd') (.int kd k) (L.map (Ent.obj fun a => Value.int kd a)) i = some (findL k L i) := by
      intro L
      induction L with
      | nil => intro i; rfl
      | cons p l ih =>
        intro i
        simp only [List.map_cons, Instr.findNow, Ent.obj, Instr.sameNow, if_true, findL]
        by_cases q : k = p.1
        · simp [q]
        · have : (k == p.1) = false := by simpa using q
          simp only [this, if_neg q]
          exact ih (i + 1)
    unfold Instr.findKey
    simp [run_underlying hk, h L 0]
  same k := by simp [Instr.sameBits]
end Go.Proofs.Ytdhgcmodlikckaa
