/- Maps in memory, more: keys and stamps told once; x[k]++ ; keys of arrays and structs. -/
import Derived.Test.YtdhgcmodlikckaaMap
namespace Go.Proofs.Ytdhgcmodlikckaa
open Go.RowKit
set_option linter.unusedVariables false
set_option linter.unusedSimpArgs false
set_option linter.unusedSectionVars false
section
variable {κ : Type} [DecidableEq κ]
/-- Each key once, each stamp once, all stamps ahead of the clock. -/
structure MapOk (L : List (Ent κ)) (clock : Nat) : Prop where
  keys : (L.map (·.1)).Nodup
  stamps : (L.map (·.2.2)).Nodup
  old : ∀ p ∈ L, p.2.2 < clock
theorem MapOk.nil : MapOk ([] : List (Ent κ)) 0 := ⟨List.nodup_nil, List.nodup_nil, by simp⟩
theorem modify_keys (L : List (Ent κ)) (i : Nat) (k : κ) (v : Value) {u : Value} {n : Nat} (h : L[i]? = some (k, u, n)) :
    (L.modify i fun p => (k, v, p.2.2)).map (·.1) = L.map (·.1) ∧ (L.modify i fun p => (k, v, p.2.2)).map (·.2.2) = L.map (·.2.2) := by
  constructor <;>
  · apply List.ext_getElem?
    intro j
    simp only [List.getElem?_map, List.getElem?_modify]
    by_cases hj : i = j
    · subst hj; simp [h]
    · simp [hj]
theorem MapOk.upd {L : List (Ent κ)} {clock : Nat} (h : MapOk L clock) (k : κ) (v : Value) : MapOk (updL k v clock L) (updC k clock L) := by
  unfold updL updC
  cases hf : findL k L 0 with
  | none =>
    dsimp only
    have hn := findL_none.1 hf
    refine ⟨?_, ?_, ?_⟩
    · rw [List.map_append, List.map_cons, List.map_nil]
      refine List.nodup_append.2 ⟨h.keys, by simp, ?_⟩
      intro a ha b hb
      obtain ⟨p, hp, rfl⟩ := List.mem_map.1 ha
      simp only [List.mem_singleton] at hb
      rw [hb]
      exact hn p hp
    · rw [List.map_append, List.map_cons, List.map_nil]
      refine List.nodup_append.2 ⟨h.stamps, by simp, ?_⟩
      intro a ha b hb
      obtain ⟨p, hp, rfl⟩ := List.mem_map.1 ha
      simp only [List.mem_singleton] at hb
      rw [hb]
      exact Nat.ne_of_lt (h.old p hp)
    · intro p hp
      rcases List.mem_append.1 hp with hp | hp
      · exact Nat.lt_succ_of_lt (h.old p hp)
      · simp only [List.mem_singleton] at hp
        subst hp
        exact Nat.lt_succ_self _
  | some q =>
    obtain ⟨i, u⟩ := q
    dsimp only
    obtain ⟨_, n, hi⟩ := findL_some hf
    simp only [Nat.sub_zero] at hi
    obtain ⟨e1, e2⟩ := modify_keys L i k v hi
    refine ⟨by rw [e1]; exact h.keys, by rw [e2]; exact h.stamps, ?_⟩
    intro p hp
    have : p.2.2 ∈ L.map (·.2.2) := by rw [← e2]; exact List.mem_map.2 ⟨p, hp, rfl⟩
    obtain ⟨p', hp', e⟩ := List.mem_map.1 this
    rw [← e]
    exact h.old p' hp'
theorem MapOk.del {L : List (Ent κ)} {clock : Nat} (h : MapOk L clock) (k : κ) : MapOk (delL k L) clock := by
  unfold delL
  cases findL k L 0 with
  | none => exact h
  | some q =>
    have hs : (L.eraseIdx q.1).Sublist L := List.eraseIdx_sublist _ _
    exact ⟨h.keys.sublist (hs.map _), h.stamps.sublist (hs.map _), fun p hp => h.old p (hs.subset hp)⟩
theorem delL_cons (k : κ) (p : Ent κ) (l : List (Ent κ)) : delL k (p :: l) = if k = p.1 then l else p :: delL k l := by
  unfold delL
  simp only [findL]
  by_cases h : k = p.1
  · simp [h]
  · rw [if_neg h, if_neg h]
    have e := findL_shift k l 1
    cases h1 : findL k l 1 with
    | none =>
      rw [h1] at e
      cases h0 : findL k l 0 with
      | none => rfl
      | some q => rw [h0] at e; simp at e
    | some q =>
      rw [h1] at e
      cases h0 : findL k l 0 with
      | none => rw [h0] at e; simp at e
      | some q' =>
        have gen : ∀ (l : List (Ent κ)) (a : Nat) (q q' : Nat × Value), findL k l (a + 1) = some q → findL k l a = some q' → q.1 = q'.1 + 1 := by
          intro l
          induction l with
          | nil => intro a q q' h; simp [findL] at h
          | cons p l ih =>
            intro a q q' h h3
            simp only [findL] at h h3
            split at h
            · rename_i hk
              rw [if_pos hk] at h3
              injection h with h; injection h3 with h3
              rw [← h, ← h3]
            · rename_i hk
              rw [if_neg hk] at h3
              exact ih (a + 1) q q' h h3
        have := gen l 0 q q' h1 h0
        dsimp only
        rw [this]
        rfl
theorem valL_del (k k' : κ) (L : List (Ent κ)) (hn : (L.map (·.1)).Nodup) : valL k' (delL k L) = if k' = k then none else valL k' L := by
  induction L with
  | nil => simp [delL, findL, valL_nil]
  | cons p l ih =>
    rw [List.map_cons] at hn
    obtain ⟨hp, hl⟩ := List.nodup_cons.1 hn
    rw [delL_cons]
    by_cases h : k = p.1
    · rw [if_pos h]
      by_cases h2 : k' = k
      · rw [if_pos h2, valL_none]
        intro q hq e
        exact hp (List.mem_map.2 ⟨q, hq, by rw [e, h2, h]⟩)
      · rw [if_neg h2, valL_cons, if_neg (by rw [← h]; exact h2)]
    · rw [if_neg h, valL_cons, valL_cons, ih hl]
      by_cases h2 : k' = p.1
      · rw [if_pos h2, if_pos h2, if_neg (by rw [h2]; exact Ne.symm h)]
      · rw [if_neg h2, if_neg h2]
theorem updL_length (k : κ) (v : Value) (c : Nat) (L : List (Ent κ)) : (updL k v c L).length = if (valL k L).isSome then L.length else L.length + 1 := by
  unfold updL valL
  cases findL k L 0 with
  | none => simp
  | some q => simp
theorem delL_length (k : κ) (L : List (Ent κ)) : (delL k L).length = if (valL k L).isSome then L.length - 1 else L.length := by
  unfold delL valL
  cases h : findL k L 0 with
  | none => simp
  | some q =>
    obtain ⟨_, n, hi⟩ := findL_some (i := 0) (j := q.1) (v := q.2) (by rw [h])
    simp only [Nat.sub_zero] at hi
    have := (List.getElem?_eq_some_iff.1 hi).1
    simp [List.length_eraseIdx, this]
theorem delL_pos (k : κ) (L : List (Ent κ)) (h : (valL k L).isSome = true) : 0 < L.length := by
  cases L with
  | nil => simp [valL_nil] at h
  | cons p l => simp
/-- When a key's entry came, or comes. -/
def stampL (k : κ) (L : List (Ent κ)) (clock : Nat) : Nat := match findL k L 0 with
  | some (i, _) => ((L[i]?).map (·.2.2)).getD 0
  | none => clock
theorem updL_updL (k : κ) (v x : Value) (c c' : Nat) (L : List (Ent κ)) : updL k x c' (updL k v c L) = updL k x c L := by
  induction L with
  | nil => simp [updL, findL]
  | cons p l ih =>
    rw [updL_cons, updL_cons]
    by_cases h : k = p.1
    · rw [if_pos h, updL_cons, if_pos rfl, if_pos h]
    · rw [if_neg h, updL_cons, if_neg h, if_neg h, ih]
end
section
variable {κ : Type} [DecidableEq κ] {P : Program} {w : World} {b : Nat} {enc : κ → Value} {L : List (Ent κ)} {clock : Nat} {kt et mt : TypeId}
theorem run_entry_at (K : KeyEnc P kt enc) (ht : P.underlying mt = some (.map kt et)) {z : Value} (hz : ∀ w, (zeroValue et).run P w = .ok z w) (h : MapAt w b enc L clock) (k : κ) :
    (Instr.mapEntry mt (.map (some b)) (enc k)).run P w = .ok (.tuple #[(valL k L).getD z, goInt (stampL k L clock)]) (setB w b (mapObj enc (updL k ((valL k L).getD z) clock L) (updC k clock L))) := by
  have hg : (getObj b).run P w = .ok (.map (L.map (Ent.obj enc)).toArray clock) w := run_getObj_some h
  have hs : ∀ o, (setObj b o).run P w = .ok () (setB w b o) := fun o => run_setObj_some o h
  unfold Instr.mapEntry
  simp only [Sem.run_bind, run_underlying ht, Result.andThen_ok, hg, K.check, K.find]
  cases hf : findL k L 0 with
  | none =>
    have e1 : valL k L = none := by unfold valL; rw [hf]; rfl
    have e2 : updL k z clock L = L ++ [(k, z, clock)] := by unfold updL; rw [hf]
    have e3 : updC k clock L = clock + 1 := by unfold updC; rw [hf]
    have e4 : stampL k L clock = clock := by unfold stampL; rw [hf]
    simp only [Sem.run_bind, hz, hs, Result.andThen_ok, Sem.run_pure, e1, Option.getD_none, e2, e3, e4]
    simp [mapObj, Ent.obj]
  | some q =>
    obtain ⟨i, v⟩ := q
    obtain ⟨_, n, hi⟩ := findL_some hf
    simp only [Nat.sub_zero] at hi
    have e1 : valL k L = some v := by unfold valL; rw [hf]; rfl
    have e2 : updL k v clock L = L.modify i fun p => (k, v, p.2.2) := by unfold updL; rw [hf]
    have e3 : updC k clock L = clock := by unfold updC; rw [hf]
    have e4 : stampL k L clock = n := by unfold stampL; rw [hf]; simp [hi]
    have e5 : (((L.map (Ent.obj enc)).toArray[i]?).map (·.key)).getD (enc k) = enc k := by simp [hi, Ent.obj]
    have e6 : (Instr.keyThatStays (enc k) (enc k)).run P w = .ok (enc k) w := by
      unfold Instr.keyThatStays
      rw [if_pos (K.same k)]
      rfl
    have e7 : (((L.map (Ent.obj enc)).toArray[i]?).map (fun e => (e.born : Int))).getD 0 = (n : Int) := by simp [hi, Ent.obj]
    simp only [e5, Sem.run_bind, e6, Result.andThen_ok, hs, Sem.run_pure, e1, Option.getD_some, e2, e3, e4, e7]
    congr 2
    unfold mapObj
    congr 1
    apply Array.ext_getElem?
    intro j
    simp only [List.modify_toArray, List.getElem?_toArray, List.getElem?_modify, List.getElem?_map]
    cases hLj : L[j]? with
    | none => simp
    | some p =>
      by_cases hij : i = j
      · subst hij
        rw [hi] at hLj
        injection hLj with hLj
        subst hLj
        simp [Ent.obj]
      · simp [hij, Ent.obj]
theorem born_at {L : List (Ent κ)} {i : Nat} {p : Ent κ} (hn : (L.map (·.2.2)).Nodup) (hi : L[i]? = some p) : (L.map (Ent.obj enc)).toArray.findIdx? (fun e => ((e.born : Nat) : Int) == (p.2.2 : Int)) = some i := by
  rw [List.findIdx?_toArray, List.findIdx?_eq_some_iff_getElem]
  have hl := (List.getElem?_eq_some_iff.1 hi).1
  have hg := (List.getElem?_eq_some_iff.1 hi).2
  refine ⟨by simpa using hl, by simp [Ent.obj, hg], fun j hj => ?_⟩
  have hjl : j < L.length := by omega
  have hne : L[j].2.2 ≠ p.2.2 := by
    intro e
    have := List.pairwise_iff_getElem.1 hn j i (by simpa using hjl) (by simpa using hl) hj
    simp [e, hg] at this
  simp [Ent.obj]
  exact fun e => hne (by exact_mod_cast e)
theorem run_entryStore_at (ok : MapOk L clock) {v : Value} {k : κ} (h : MapAt w b enc (updL k v clock L) (updC k clock L)) (x : Value) :
    (Instr.entryStore mt (.map (some b)) (goInt (stampL k L clock)) x).run P w = .ok () (setB w b (mapObj enc (updL k x clock L) (updC k clock L))) := by
  have hg : (getObj b).run P w = .ok (.map ((updL k v clock L).map (Ent.obj enc)).toArray (updC k clock L)) w := run_getObj_some h
  have hs : ∀ o, (setObj b o).run P w = .ok () (setB w b o) := fun o => run_setObj_some o h
  have hok := ok.upd k v
  obtain ⟨i, u, hi⟩ : ∃ i, ∃ u : Ent κ, (updL k v clock L)[i]? = some (k, v, stampL k L clock) ∧ updL k x clock L = (updL k v clock L).modify i fun p => (p.1, x, p.2.2) := by
    cases hf : findL k L 0 with
    | none =>
      have e2 : ∀ z, updL k z clock L = L ++ [(k, z, clock)] := fun z => by unfold updL; rw [hf]
      have e4 : stampL k L clock = clock := by unfold stampL; rw [hf]
      refine ⟨L.length, (k, v, 0), ?_, ?_⟩
      · rw [e2, e4]; simp
      · rw [e2, e2]
        apply List.ext_getElem?
        intro j
        rw [List.getElem?_modify]
        by_cases hj : L.length = j
        · subst hj; simp
        · simp only [hj, if_false, Option.map_eq_map, Option.map_id', id]
          rcases Nat.lt_or_ge j L.length with h1 | h1
          · rw [List.getElem?_append_left h1, List.getElem?_append_left h1]
          · rw [List.getElem?_eq_none (by simp; omega), List.getElem?_eq_none (by simp; omega)]
            try rfl
    | some q =>
      obtain ⟨i, u⟩ := q
      obtain ⟨_, n, hi⟩ := findL_some hf
      simp only [Nat.sub_zero] at hi
      have e2 : ∀ z, updL k z clock L = L.modify i fun p => (k, z, p.2.2) := fun z => by unfold updL; rw [hf]
      have e4 : stampL k L clock = n := by unfold stampL; rw [hf]; simp [hi]
      refine ⟨i, (k, v, 0), ?_, ?_⟩
      · rw [e2, e4]; simp [List.getElem?_modify, hi]
      · rw [e2, e2]
        apply List.ext_getElem?
        intro j
        simp only [List.getElem?_modify]
        by_cases hj : i = j
        · subst hj; simp [hi]
        · simp [hj]
  have hb := born_at (enc := enc) hok.stamps hi.1
  unfold Instr.entryStore
  simp only [goInt, Sem.run_bind, Result.andThen_ok, hg]
  simp only [asInt, asIntOf, Sem.run_bind, Sem.run_pure, Result.andThen_ok]
  rw [hb]
  simp only [hs, hi.2]
  congr 2
  unfold mapObj
  congr 1
  apply Array.ext_getElem?
  intro j
  simp only [List.modify_toArray, List.getElem?_toArray, List.getElem?_modify, List.getElem?_map]
  cases (updL k v clock L)[j]? with
  | none => simp
  | some p =>
    by_cases hij : i = j
    · simp [hij, Ent.obj]
    · simp [hij, Ent.obj]
end
end Go.Proofs.Ytdhgcmodlikckaa
