/- Some blocks change, and new ones come: nothing else turns. -/
import Derived.Test.YtdhgcmodlikckaaMapB
namespace Go.Proofs.Ytdhgcmodlikckaa
open Go.RowKit
set_option linter.unusedVariables false
set_option linter.unusedSimpArgs false
/-- Of all blocks that were there, those of S alone may have turned. -/
structure Only (S : Nat → Prop) (w w' : World) : Prop where
  os : w'.os = w.os
  tape : w'.tape = w.tape
  output : w'.output = w.output
  size : w.heap.size ≤ w'.heap.size
  block : ∀ k, k < w.heap.size → ¬ S k → w'.heap[k]? = w.heap[k]?
section
variable {S : Nat → Prop} {w w' : World}
theorem Only.refl (S : Nat → Prop) (w : World) : Only S w w := ⟨rfl, rfl, rfl, Nat.le_refl _, fun _ _ _ => rfl⟩
theorem Only.trans {x y z : World} (h : Only S x y) (k : Only S y z) : Only S x z :=
  ⟨k.os.trans h.os, k.tape.trans h.tape, k.output.trans h.output, Nat.le_trans h.size k.size, fun i hi hb => (k.block i (Nat.lt_of_lt_of_le hi h.size) hb).trans (h.block i hi hb)⟩
theorem only_of (h : Below w.heap.size w w') (S : Nat → Prop) : Only S w w' := ⟨h.os, h.tape, h.output, h.size, fun k hk _ => h.block k hk⟩
theorem only_but {b : Nat} (h : But b w w') (hb : S b) : Only S w w' := ⟨h.os, h.tape, h.output, h.size, fun k hk hs => h.block k hk (fun e => hs (e ▸ hb))⟩
theorem Only.mono {S' : Nat → Prop} (h : Only S w w') (hs : ∀ k, S k → S' k) : Only S' w w' := ⟨h.os, h.tape, h.output, h.size, fun k hk hn => h.block k hk (fun q => hn (hs k q))⟩
theorem Only.ext (h : Only S w w') {w2 : World} (k : Below w'.heap.size w' w2) : Only S w w2 := h.trans (only_of k S)
theorem Only.below {B : Nat} {u : World} (h : Below B u w) (k : Only S w w') (hb : ∀ k, S k → B ≤ k) (hB : B ≤ w.heap.size) : Below B u w' :=
  h.trans ⟨k.os, k.tape, k.output, k.size, fun i hi => k.block i (by omega) (fun q => by have := hb i q; omega)⟩
theorem Only.lt (h : Only S w w') {k : Nat} (hk : k < w.heap.size) : k < w'.heap.size := Nat.lt_of_lt_of_le hk h.size
theorem Only.set (h : Only S w w') {b : Nat} (hb : S b) (i : Nat) (v : Value) : Only S w (w'.setCell ⟨b, i, none⟩ v) := h.trans (only_but ((But.refl b w').set i v) hb)
theorem Only.setRow (h : Only S w w') {b : Nat} (hb : S b) (cs : Array Value) : Only S w (w'.setRow b cs) := h.trans (only_but ((But.refl b w').setRow cs) hb)
theorem Only.setB (h : Only S w w') {b : Nat} (hb : S b) (o : Obj) : Only S w (setB w' b o) := h.trans (only_but (but_setB w' b o) hb)
theorem Only.alloc (h : Only S w w') (o : Obj) : Only S w (w'.alloc o) := h.ext (below_new (Below.refl _ _) _)
theorem Only.drew (h : Only S w w') : Only S w w'.drew := h.ext (Below.refl _ _).drew
theorem RowAt.only {k : Nat} {cs : Array Value} {t : TypeId} (h : RowAt w k cs t) (hb : Only S w w') (hk : ¬ S k) : RowAt w' k cs t := (hb.block k h.lt hk).trans h
theorem RowAt.setB {k b : Nat} {cs : Array Value} {t : TypeId} (h : RowAt w k cs t) (o : Obj) (hk : k ≠ b) : RowAt (setB w b o) k cs t := h.but (but_setB w b o) hk
theorem cell_only {a : Addr} {v : Value} (h : w.cell? a = some v) (hb : Only S w w') (hk : ¬ S a.block) : w'.cell? a = some v := (World.cell?_of_block (hb.block a.block (World.block_lt_of_cell? w a h) hk)).trans h
variable {κ : Type} [DecidableEq κ] {enc : κ → Value} {L : List (Ent κ)} {clock : Nat}
theorem MapAt.only {k : Nat} (h : MapAt w k enc L clock) (hb : Only S w w') (hk : ¬ S k) : MapAt w' k enc L clock := (hb.block k h.lt hk).trans h
theorem MapAt.setRow {k b : Nat} (h : MapAt w k enc L clock) (cs : Array Value) (hk : k ≠ b) : MapAt (w.setRow b cs) k enc L clock := h.but ((But.refl b w).setRow cs) hk
theorem MapAt.setCell {k b : Nat} (h : MapAt w k enc L clock) (i : Nat) (v : Value) (hk : k ≠ b) : MapAt (w.setCell ⟨b, i, none⟩ v) k enc L clock := h.but ((But.refl b w).set i v) hk
theorem MapAt.setB {k b : Nat} (h : MapAt w k enc L clock) (o : Obj) (hk : k ≠ b) : MapAt (setB w b o) k enc L clock := h.but (but_setB w b o) hk
/-- How many keys a predicate has. -/
def cntB (f : Nat → Bool) (n : Nat) : Nat := ((List.range n).filter f).length
theorem cntB_succ (f : Nat → Bool) (n : Nat) : cntB f (n + 1) = cntB f n + if f n = true then 1 else 0 := by
  unfold cntB
  rw [List.range_succ, List.filter_append, List.length_append]
  by_cases h : f n = true
  · simp [h]
  · simp [h]
theorem cntB_le (f : Nat → Bool) (n : Nat) : cntB f n ≤ n := by
  induction n with
  | zero => simp [cntB]
  | succ n ih => rw [cntB_succ]; split <;> omega
theorem cntB_full (f : Nat → Bool) (n : Nat) (h : ∀ i, i < n → f i = true) : cntB f n = n := by
  induction n with
  | zero => simp [cntB]
  | succ n ih => rw [cntB_succ, ih (fun i hi => h i (by omega)), h n (by omega)]; simp
theorem cntB_free (f : Nat → Bool) (n i : Nat) (hi : i < n) (h : f i = false) : cntB f n < n := by
  induction n with
  | zero => omega
  | succ n ih =>
    rw [cntB_succ]
    have := cntB_le f n
    by_cases hin : i = n
    · subst hin
      rw [h]
      simp
      omega
    · have := ih (by omega)
      split <;> omega
theorem cntB_congr (f g : Nat → Bool) (n : Nat) (h : ∀ i, i < n → f i = g i) : cntB f n = cntB g n := by
  induction n with
  | zero => rfl
  | succ n ih => rw [cntB_succ, cntB_succ, ih (fun i hi => h i (by omega)), h n (by omega)]
theorem cntB_add (f g : Nat → Bool) (n i : Nat) (hi : i < n) (h : f i = false) (hg : g i = true) (hs : ∀ j, j ≠ i → g j = f j) : cntB g n = cntB f n + 1 := by
  induction n with
  | zero => omega
  | succ n ih =>
    rw [cntB_succ, cntB_succ]
    by_cases hin : i = n
    · subst hin
      rw [h, hg, cntB_congr g f i (fun j hj => hs j (by omega))]
      simp
    · rw [ih (by omega), hs n (fun e => hin e.symm)]
      omega
end
theorem find_asking {κ : Type} [DecidableEq κ] {P : Program} {kt : TypeId} {enc : κ → Value} (heq : ∀ a b w, (Op.equal kt (enc a) (enc b)).run P w = .ok (decide (a = b)) w) (k : κ) (w : World) : ∀ (L : List (Ent κ)) (i : Nat), (Instr.findAsking kt (enc k) (L.map (Ent.obj enc)) i).run P w = .ok (findL k L i) w
  | [], i => rfl
  | p :: l, i => by
    simp only [List.map_cons, Instr.findAsking, Sem.run_bind, Ent.obj, heq, Result.andThen_ok, findL]
    by_cases h : k = p.1
    · simp [h]
    · simp only [h, decide_false, if_false, Bool.false_eq_true]
      exact find_asking heq k w l (i + 1)
/-- Keys of a type that is compared by asking. -/
theorem keyEnc_ask {κ : Type} [DecidableEq κ] {P : Program} {kt : TypeId} {enc : κ → Value} {d : TypeDesc} (hu : P.underlying kt = some d) (hd : ∀ a b, Instr.sameNow d (enc a) (enc b) = none)
    (heq : ∀ a b w, (Op.equal kt (enc a) (enc b)).run P w = .ok (decide (a = b)) w) (hc : ∀ (e : Bool) (k : κ) (w : World), (Instr.checkKey e 10000 kt (enc k)).run P w = .ok () w) (hs : ∀ k, Instr.sameBits 10000 (enc k) (enc k) = true) : KeyEnc P kt enc where
  check := hc
  same := hs
  find k L w := by
    unfold Instr.findKey
    simp only [Sem.run_bind, run_underlying hu, Result.andThen_ok]
    cases L with
    | nil => rfl
    | cons p l =>
      simp only [List.map_cons, Instr.findNow]
      have e : Instr.sameNow d (enc k) (Ent.obj enc p).key = none := hd k p.1
      rw [e]
      exact find_asking heq k w (p :: l) 0
end Go.Proofs.Ytdhgcmodlikckaa
