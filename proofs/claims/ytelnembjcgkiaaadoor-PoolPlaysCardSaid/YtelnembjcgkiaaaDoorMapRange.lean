/- A range over a map that the loop leaves as it is: the iterator in its block, and what has been handed out. -/
import Derived.Test.YtelnembjcgkiaaaDoorOnly
import Derived.Maps.RangeWalk
namespace Go.Proofs.YtelnembjcgkiaaaDoor
open Go.RowKit
set_option linter.unusedVariables false
set_option linter.unusedSimpArgs false
set_option linter.unusedSectionVars false
section
variable {κ : Type} [DecidableEq κ] {enc : κ → Value} {L : List (Ent κ)} {clock : Nat}
/-- Block r holds an iterator over the map in block bm that has handed out 'done'. -/
structure IterAt (w : World) (r bm clock : Nat) (L done : List (Ent κ)) : Prop where
  it : ∃ c0, clock ≤ c0 ∧ w.heap[r]? = some (.mapIter (some bm) clock (done.map (·.2.2)).toArray c0)
  sub : ∀ p ∈ done, p ∈ L
  nd : (done.map (·.2.2)).Nodup
theorem nodup_of_map {α β : Type} {f : α → β} {l : List α} (h : (l.map f).Nodup) : l.Nodup := by
  induction l with
  | nil => exact List.nodup_nil
  | cons x r ih =>
    rw [List.map_cons, List.nodup_cons] at h
    exact List.nodup_cons.2 ⟨fun hx => h.1 (List.mem_map.2 ⟨x, hx, rfl⟩), ih h.2⟩
theorem nodup_le {α : Type} {l : List α} : ∀ {m : List α}, l.Nodup → (∀ x ∈ l, x ∈ m) → l.length ≤ m.length := by
  induction l with
  | nil => intro m _ _; simp
  | cons x r ih =>
    intro m h hs
    rw [List.nodup_cons] at h
    obtain ⟨s, t, rfl⟩ := List.append_of_mem (hs x (by simp))
    have h2 := ih (m := s ++ t) h.2 fun y hy => by
      have hy2 := hs y (List.mem_cons_of_mem _ hy)
      rcases List.mem_append.1 hy2 with h3 | h3
      · exact List.mem_append.2 (.inl h3)
      · rcases List.mem_cons.1 h3 with rfl | h3
        · exact absurd hy h.1
        · exact List.mem_append.2 (.inr h3)
    simp only [List.length_append, List.length_cons] at h2 ⊢
    omega
theorem inj_of_map {α β : Type} {f : α → β} {l : List α} (h : (l.map f).Nodup) {p q : α} (hp : p ∈ l) (hq : q ∈ l) (e : f p = f q) : p = q := by
  induction l with
  | nil => cases hp
  | cons x r ih =>
    rw [List.map_cons, List.nodup_cons] at h
    rcases List.mem_cons.1 hp with rfl | hp'
    · rcases List.mem_cons.1 hq with rfl | hq'
      · rfl
      · exact absurd (List.mem_map.2 ⟨q, hq', e.symm⟩) h.1
    · rcases List.mem_cons.1 hq with rfl | hq'
      · exact absurd (List.mem_map.2 ⟨p, hp', e⟩) h.1
      · exact ih h.2 hp' hq'
theorem IterAt.full {w : World} {r bm : Nat} {done : List (Ent κ)} (h : IterAt w r bm clock L done) (ok : MapOk L clock) (hl : ∀ p ∈ L, p ∈ done) : done.Perm L :=
  (List.perm_ext_iff_of_nodup (nodup_of_map h.nd) (nodup_of_map ok.stamps)).2 fun p => ⟨h.sub p, hl p⟩
theorem IterAt.lt {w : World} {r bm : Nat} {done : List (Ent κ)} (h : IterAt w r bm clock L done) : r < w.heap.size := by
  obtain ⟨c, _, h⟩ := h.it
  rcases Nat.lt_or_ge r w.heap.size with q | q
  · exact q
  · simp [Array.getElem?_eq_none q] at h
theorem IterAt.only {w w' : World} {S : Nat → Prop} {r bm : Nat} {done : List (Ent κ)} (h : IterAt w r bm clock L done) (hb : Only S w w') (hr : ¬ S r) : IterAt w' r bm clock L done := by
  obtain ⟨c, hc, q⟩ := h.it
  exact ⟨⟨c, hc, (hb.block r h.lt hr).trans q⟩, h.sub, h.nd⟩
theorem IterAt.ext {w w' : World} {r bm : Nat} {done : List (Ent κ)} (h : IterAt w r bm clock L done) (hb : Below w.heap.size w w') : IterAt w' r bm clock L done :=
  h.only (S := fun _ => False) (only_of hb _) (fun q => q)
theorem born_mem {done : List (Ent κ)} {n : Nat} : ((done.map (·.2.2)).toArray.contains n) = true ↔ ∃ p ∈ done, p.2.2 = n := by
  simp
theorem stamp_inj {L : List (Ent κ)} (h : (L.map (·.2.2)).Nodup) {p q : Ent κ} (hp : p ∈ L) (hq : q ∈ L) (e : p.2.2 = q.2.2) : p = q := inj_of_map h hp hq e
variable {P : Program} {w : World} {ops : Array Oper} {rest : List Oper} {o : Oper} {a : Act} {Q : Exit → Act → World → Prop} {b r : Nat}
theorem wpList_range_at (hg : o.guard = none) (m : Operand) (t kt et : TypeId) (hop : o.op = Op.range t m) (ht : P.underlying t = some (.map kt et)) (hm : a.eval m = .map (some b)) (h : MapAt w b enc L clock)
    (hK : ∀ w', IterAt w' w.heap.size b clock L [] → Below w.heap.size w w' → wpList P ops Q rest (a.put o.dst (.pointer (some ⟨w.heap.size, 0, none⟩))) w') :
    wpList P ops Q (o :: rest) a w := by
  refine wpList_plain hg fun K' hK' => ?_
  have hrun := run_range_map (P := P) w t kt et b _ clock ht h
  unfold Oper.wp
  simp [execOp, hop, hm, hrun, Result.andThen]
  refine hK' _ _ (hK _ ⟨⟨clock, Nat.le_refl _, ?_⟩, by simp, by simp⟩ (below_new (Below.refl _ _) _))
  exact heap_alloc_new w _
theorem wpList_next_at (hg : o.guard = none) (it : Operand) (hop : o.op = Op.next it false) (hit : a.eval it = .pointer (some ⟨r, 0, none⟩)) (h : MapAt w b enc L clock) (ok : MapOk L clock) {done : List (Ent κ)} (hi : IterAt w r b clock L done)
    (hDone : done.Perm L → wpList P ops Q rest (a.put o.dst (.tuple #[.bool false])) w)
    (hMore : ∀ e ∈ L, e ∉ done → ∀ w', IterAt w' r b clock L (done ++ [e]) → Only (· = r) w w' → (Instr.entry (.pointer (some ⟨r, 0, none⟩))).run P w' = .ok (.tuple #[enc e.1, e.2.1]) w' → wpList P ops Q rest (a.put o.dst (.tuple #[.bool true, enc e.1, e.2.1])) w') :
    wpList P ops Q (o :: rest) a w := by
  refine wpList_plain hg fun K' hK' => ?_
  obtain ⟨c0, hc0, hr⟩ := hi.it
  have hne : r ≠ b := by
    rintro rfl
    have := hr.symm.trans h
    simp [mapObj] at this
  have hold : ∀ x ∈ (L.map (Ent.obj enc)).toArray.toList, x.born < clock := by
    intro x hx
    simp only [List.mem_map] at hx
    obtain ⟨p, hp, rfl⟩ := hx
    exact ok.old p hp
  have hst : ((L.map (Ent.obj enc)).toArray.toList.map (·.born)).Nodup := by
    simp only [List.map_map]
    exact ok.stamps
  unfold Oper.wp
  rcases Go.run_next_at (P := P) w o.type r b clock c0 (done.map (·.2.2)).toArray (L.map (Ent.obj enc)).toArray clock hr h hold hc0 with ⟨h0, hrun⟩ | ⟨e, he, w1, hw1, hrun⟩
  · simp [execOp, hop, hit, hrun, Result.andThen]
    refine hK' _ _ (hDone (hi.full ok fun p hp => ?_))
    have hs := all_seen _ _ h0 (Ent.obj enc p) (by simpa using List.mem_map.2 ⟨p, hp, rfl⟩)
    obtain ⟨q, hq, e⟩ := born_mem.1 hs
    have : q = p := stamp_inj ok.stamps (hi.sub q hq) hp e
    exact this ▸ hq
  · obtain ⟨he1, he2⟩ := mem_left he
    have he1' := he1
    simp only [List.mem_map] at he1'
    obtain ⟨p, hp, rfl⟩ := he1'
    have hnd : p ∉ done := fun hq => by
      have : ((done.map (·.2.2)).toArray.contains p.2.2) = true := born_mem.2 ⟨p, hq, rfl⟩
      have h2 : ((done.map (·.2.2)).toArray.contains p.2.2) = false := he2
      rw [this] at h2
      cases h2
    obtain ⟨W2, hW2⟩ : ∃ W2, W2 = setB w1 r (.mapIter (some b) clock ((done.map (·.2.2)).toArray.push p.2.2) clock) := ⟨_, rfl⟩
    have hrun2 : (Instr.next (.pointer (some ⟨r, 0, none⟩)) false o.type).run P w = .ok (.tuple #[.bool true, enc p.1, p.2.1]) W2 := by rw [hW2]; exact hrun
    simp [execOp, hop, hit, hrun2, Result.andThen]
    have hb1 : Below w.heap.size w w1 := by rcases hw1 with rfl | rfl; exact Below.refl _ _; exact (Below.refl _ _).drew
    have hr1 : r < w1.heap.size := Nat.lt_of_lt_of_le hi.lt hb1.size
    have hO : Only (· = r) w (setB w1 r (.mapIter (some b) clock ((done.map (·.2.2)).toArray.push p.2.2) clock)) := (only_of hb1 (· = r)).setB (b := r) rfl _
    have hir : (setB w1 r (.mapIter (some b) clock ((done.map (·.2.2)).toArray.push p.2.2) clock)).heap[r]? = some (.mapIter (some b) clock ((done.map (·.2.2)).toArray.push p.2.2) clock) := by
      simp [setB, hr1]
    have hbm : (setB w1 r (.mapIter (some b) clock ((done.map (·.2.2)).toArray.push p.2.2) clock)).heap[b]? = some (mapObj enc L clock) := h.only hO (Ne.symm hne)
    rw [← hW2] at hO hir hbm
    refine hK' _ _ (hMore p hp hnd _ ⟨⟨clock, Nat.le_refl _, by rw [hir]; simp⟩, ?_, ?_⟩ hO ?_)
    · intro q hq
      rcases List.mem_append.1 hq with hq | hq
      · exact hi.sub q hq
      · simp only [List.mem_singleton] at hq; subst hq; exact hp
    · rw [List.map_append, List.map_cons, List.map_nil]
      refine List.nodup_append.2 ⟨hi.nd, by simp, ?_⟩
      intro x hx y hy
      simp only [List.mem_singleton] at hy
      obtain ⟨q, hq, rfl⟩ := List.mem_map.1 hx
      rw [hy]
      intro e
      exact hnd (stamp_inj ok.stamps (hi.sub q hq) hp e ▸ hq)
    · exact Go.run_entry_at (P := P) _ r b clock (done.map (·.2.2)).toArray _ clock (Ent.obj enc p) hir hbm he1 hst
end
end Go.Proofs.YtelnembjcgkiaaaDoor
