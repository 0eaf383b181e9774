/- Things in rows, linked by their numbers: what the links and the ends say of the rows. No program in sight. -/
import Derived.Test.YtelnembjcgkiaaaGrp
import Derived.Test.YtelnembjcgkiaaaOnly
namespace Go.Proofs.Ytelnembjcgkiaaa
open Go.RowKit
set_option linter.unusedVariables false
set_option linter.unusedSimpArgs false
set_option linter.unusedSectionVars false
section
variable {κ : Type} [DecidableEq κ]
structure Lk (κ : Type) where
  key : κ
  inn : Bool
  ahead : Int
  behind : Int
def ofK (L : List (κ × Nat)) (k : κ) : List Nat := (L.filter fun p => decide (p.1 = k)).map (·.2)
def headI : List Nat → Int
  | [] => -1
  | x :: _ => (x : Int)
def lastI (F : List Nat) : Int := headI F.reverse
theorem lastI_nil : lastI [] = -1 := rfl
theorem lastI_snoc (A : List Nat) (x : Nat) : lastI (A ++ [x]) = x := by unfold lastI; simp [headI]
theorem lastI_app (A B : List Nat) (x : Nat) : lastI (A ++ x :: B) = lastI (x :: B) := by
  unfold lastI
  rw [List.reverse_append, List.reverse_cons]
  cases B.reverse with
  | nil => rfl
  | cons y r => rfl
theorem headI_app (A B : List Nat) (x : Nat) : headI (x :: A ++ B) = x := rfl
theorem headI_neg {F : List Nat} : headI F = -1 ↔ F = [] := by
  cases F with
  | nil => simp [headI]
  | cons x r => simp only [headI, reduceCtorEq, iff_false]; try omega
theorem lastI_neg {F : List Nat} : lastI F = -1 ↔ F = [] := by unfold lastI; rw [headI_neg]; simp
/-- A list is empty, or has a last one. -/
theorem snoc_cases (F : List Nat) : F = [] ∨ ∃ A x, F = A ++ [x] := by
  rcases List.eq_nil_or_concat F with h | ⟨A, x, h⟩
  · exact .inl h
  · exact .inr ⟨A, x, by simpa using h⟩
def headV (F : List Nat) : Option (Int × Int × Int) := if F = [] then none else some (headI F, lastI F, F.length)
structure Rep (z : κ) (n : Nat) (L : List (κ × Nat)) (lk : Nat → Lk κ) (hd : κ → Option (Int × Int × Int)) : Prop where
  lt : ∀ p ∈ L, p.2 < n
  nd : (L.map (·.2)).Nodup
  link : ∀ k A j B, ofK L k = A ++ j :: B → lk j = ⟨k, true, lastI A, headI B⟩
  out : ∀ j, (∀ p ∈ L, p.2 ≠ j) → lk j = ⟨z, false, 0, 0⟩
  hd : ∀ k, hd k = headV (ofK L k)
theorem mem_ofK {L : List (κ × Nat)} {k : κ} {j : Nat} : j ∈ ofK L k ↔ (k, j) ∈ L := by
  unfold ofK
  simp only [List.mem_map, List.mem_filter, decide_eq_true_eq]
  constructor
  · rintro ⟨⟨a, b⟩, ⟨h1, h2⟩, h3⟩
    simp only at h2 h3
    rw [← h2, ← h3]
    exact h1
  · intro h
    exact ⟨(k, j), ⟨h, rfl⟩, rfl⟩
theorem key_once {L : List (κ × Nat)} (h : (L.map (·.2)).Nodup) {k k' : κ} {j : Nat} (h1 : (k, j) ∈ L) (h2 : (k', j) ∈ L) : k = k' := by
  induction L with
  | nil => cases h1
  | cons p l ih =>
    rw [List.map_cons] at h
    obtain ⟨hp, hl⟩ := List.nodup_cons.1 h
    rcases List.mem_cons.1 h1 with e1 | e1 <;> rcases List.mem_cons.1 h2 with e2 | e2
    · rw [← e1] at e2
      exact (congrArg Prod.fst e2).symm
    · exact absurd (List.mem_map.2 ⟨_, e2, by rw [← e1]⟩) hp
    · exact absurd (List.mem_map.2 ⟨_, e1, by rw [← e2]⟩) hp
    · exact ih hl e1 e2
theorem ofK_nodup {L : List (κ × Nat)} (h : (L.map (·.2)).Nodup) (k : κ) : (ofK L k).Nodup := h.sublist (List.Sublist.map _ List.filter_sublist)
theorem Rep.empty (z : κ) (n : Nat) : Rep z n ([] : List (κ × Nat)) (fun _ => ⟨z, false, 0, 0⟩) (fun _ => none) :=
  ⟨by simp, by simp, fun k A j B h => by simp [ofK] at h, fun _ _ => rfl, fun _ => rfl⟩
theorem ofK_push (L : List (κ × Nat)) (k : κ) (i : Nat) (k' : κ) : ofK (L ++ [(k, i)]) k' = if k' = k then ofK L k' ++ [i] else ofK L k' := by
  unfold ofK
  rw [List.filter_append, List.map_append]
  by_cases h : k' = k
  · rw [if_pos h]
    simp [h]
  · rw [if_neg h]
    simp [Ne.symm h]
/-- What Push makes of the links. -/
def pushL (lk : Nat → Lk κ) (k : κ) (i : Nat) (last : Int) : Nat → Lk κ :=
  if last = -1 then upd lk i ⟨k, true, last, -1⟩ else upd (upd lk i ⟨k, true, last, -1⟩) last.toNat { upd lk i ⟨k, true, last, -1⟩ last.toNat with behind := (i : Int) }
theorem Rep.push {z : κ} {n : Nat} {L : List (κ × Nat)} {lk : Nat → Lk κ} {hd : κ → Option (Int × Int × Int)} (h : Rep z n L lk hd) (k : κ) (i : Nat) (hi : i < n) (hn : ∀ p ∈ L, p.2 ≠ i) :
    Rep z n (L ++ [(k, i)]) (pushL lk k i (lastI (ofK L k))) (fun k' => if k' = k then some (headI ((ofK L k ++ [i] : List Nat)), (i : Int), ((ofK L k).length : Int) + 1) else hd k') := by
  have hin : ∀ {k' : κ} {j : Nat}, j ∈ ofK L k' → j ≠ i := fun hj => hn _ (mem_ofK.1 hj)
  have hlast : lastI (ofK L k) = -1 ∨ ∃ (A : List Nat) (x : Nat), ofK L k = A ++ [x] ∧ lastI (ofK L k) = (x : Int) := by
    rcases snoc_cases (ofK L k) with e | ⟨A, x, e⟩
    · left; rw [e]; rfl
    · right; exact ⟨A, x, e, by rw [e, lastI_snoc]⟩
  have far : ∀ j : Nat, j ≠ i → (∀ (A : List Nat) (x : Nat), ofK L k = A ++ [x] → j ≠ x) → pushL lk k i (lastI (ofK L k)) j = lk j := by
    intro j hji hjx
    unfold pushL
    rcases hlast with e | ⟨A, x, e, e2⟩
    · rw [if_pos e, upd_far _ _ hji]
    · rw [if_neg (by omega), e2, Int.toNat_natCast, upd_far _ _ (hjx A x e), upd_far _ _ hji]
  have ati : pushL lk k i (lastI (ofK L k)) i = ⟨k, true, lastI (ofK L k), -1⟩ := by
    unfold pushL
    rcases hlast with e | ⟨A, x, e, e2⟩
    · rw [if_pos e, upd_at]
    · have hxi : x ≠ i := hin (by rw [e]; simp)
      rw [if_neg (by omega), e2, Int.toNat_natCast, upd_far _ _ (Ne.symm hxi), upd_at]
  have atx : ∀ (A : List Nat) (x : Nat), ofK L k = A ++ [x] → pushL lk k i (lastI (ofK L k)) x = { lk x with behind := (i : Int) } := by
    intro A x e
    have hxi : x ≠ i := hin (by rw [e]; simp)
    have e2 : lastI (ofK L k) = (x : Int) := by rw [e, lastI_snoc]
    unfold pushL
    rw [if_neg (by omega), e2, Int.toNat_natCast, upd_at, upd_far _ _ hxi]
  refine ⟨?_, ?_, ?_, ?_, ?_⟩
  · intro p hp
    rcases List.mem_append.1 hp with hp | hp
    · exact h.lt p hp
    · simp only [List.mem_singleton] at hp
      subst hp
      exact hi
  · rw [List.map_append, List.map_cons, List.map_nil]
    refine List.nodup_append.2 ⟨h.nd, by simp, ?_⟩
    intro a ha b hb
    simp only [List.mem_singleton] at hb
    obtain ⟨p, hp, rfl⟩ := List.mem_map.1 ha
    rw [hb]
    exact hn p hp
  · intro k' A j B e
    rw [ofK_push] at e
    by_cases hk : k' = k
    · subst hk
      rw [if_pos rfl] at e
      rcases snoc_cases B with rfl | ⟨B', b, rfl⟩
      · have e' : ofK L k' ++ [i] = A ++ [j] := e
        obtain ⟨e1, e2⟩ := List.append_inj' e' rfl
        obtain rfl : i = j := by simpa using e2
        rw [ati, e1]
        rfl
      · have e' : ofK L k' ++ [i] = (A ++ j :: B') ++ [b] := by rw [e]; simp
        obtain ⟨e1, e2⟩ := List.append_inj' e' rfl
        obtain rfl : i = b := by simpa using e2
        have hl := h.link k' A j B' e1
        have hji : j ≠ i := hin (by rw [e1]; simp)
        rcases snoc_cases B' with rfl | ⟨B2, y, rfl⟩
        · rw [atx A j e1, hl]
          rfl
        · have hne : ∀ (A2 : List Nat) (x : Nat), ofK L k' = A2 ++ [x] → j ≠ x := by
            intro A2 x e3 hjx
            have hnd := ofK_nodup h.nd k'
            rw [e1] at hnd e3
            have e4 : A2 ++ [x] = (A ++ j :: B2) ++ [y] := by rw [← e3]; simp
            obtain ⟨_, e5⟩ := List.append_inj' e4 rfl
            obtain rfl : x = y := by simpa using e5
            have := List.nodup_append.1 hnd
            have h3 := (List.nodup_cons.1 this.2.1).1
            exact h3 (by rw [hjx]; simp)
          rw [far j hji hne, hl]
          cases B2 <;> rfl
    · rw [if_neg hk] at e
      have hj : j ∈ ofK L k' := by rw [e]; simp
      rw [far j (hin hj) (fun A2 x e3 hjx => hk (key_once h.nd (mem_ofK.1 hj) (mem_ofK.1 (by rw [e3, hjx]; simp)))), h.link k' A j B e]
  · intro j hj
    have hji : j ≠ i := fun e => hj (k, i) (by simp) e.symm
    have hjL : ∀ p ∈ L, p.2 ≠ j := fun p hp => hj p (List.mem_append.2 (.inl hp))
    rw [far j hji (fun A x e hjx => hjL _ (mem_ofK.1 (show x ∈ ofK L k by rw [e]; simp)) hjx.symm), h.out j hjL]
  · intro k'
    rw [ofK_push]
    by_cases hk : k' = k
    · subst hk
      rw [if_pos rfl, if_pos rfl]
      unfold headV
      rw [if_neg (by simp), lastI_snoc]
      simp
    · rw [if_neg hk, if_neg hk, h.hd]
theorem ofK_drop (L : List (κ × Nat)) (i : Nat) (k' : κ) : ofK (L.filter fun p => decide (p.2 ≠ i)) k' = (ofK L k').filter fun j => decide (j ≠ i) := by
  unfold ofK
  rw [List.filter_filter, List.filter_map, List.filter_filter]
  congr 1
  apply List.filter_congr
  intro p _
  simp only [Function.comp_apply]
  exact Bool.and_comm _ _
/-- What Remove makes of the links. -/
def dropL (lk : Nat → Lk κ) (z : κ) (i : Nat) (ahead behind : Int) : Nat → Lk κ :=
  let l1 := if ahead = -1 then lk else upd lk ahead.toNat { lk ahead.toNat with behind := behind }
  let l2 := if behind = -1 then l1 else upd l1 behind.toNat { l1 behind.toNat with ahead := ahead }
  upd l2 i ⟨z, false, 0, 0⟩
theorem filter_out {F : List Nat} {i : Nat} (h : i ∉ F) : F.filter (fun j => decide (j ≠ i)) = F := List.filter_eq_self.2 fun j hj => by
  simp only [decide_eq_true_eq]
  exact fun e => h (e ▸ hj)
theorem Rep.drop {z : κ} {n : Nat} {L : List (κ × Nat)} {lk : Nat → Lk κ} {hd : κ → Option (Int × Int × Int)} (h : Rep z n L lk hd) (k : κ) (i : Nat) (P S : List Nat) (hF : ofK L k = P ++ i :: S) :
    Rep z n (L.filter fun p => decide (p.2 ≠ i)) (dropL lk z i (lastI P) (headI S)) (fun k' => if k' = k then headV (P ++ S) else hd k') := by
  have hnd := ofK_nodup h.nd k
  rw [hF] at hnd
  have hki : (k, i) ∈ L := mem_ofK.1 (by rw [hF]; simp)
  have hP : i ∉ P := fun hi => by
    have := (List.nodup_append.1 hnd).2.2 i hi i (by simp)
    exact this rfl
  have hS : i ∉ S := (List.nodup_cons.1 (List.nodup_append.1 hnd).2.1).1
  have hPS : ∀ x, x ∈ P → x ∉ S := fun x h1 h2 => (List.nodup_append.1 hnd).2.2 x h1 x (by simp [h2]) rfl
  have hof : ∀ k', ofK (L.filter fun p => decide (p.2 ≠ i)) k' = if k' = k then P ++ S else ofK L k' := by
    intro k'
    rw [ofK_drop]
    by_cases hk : k' = k
    · subst hk
      rw [if_pos rfl, hF, List.filter_append, List.filter_cons, filter_out hP, filter_out hS]
      simp
    · rw [if_neg hk]
      exact filter_out fun hi => hk (key_once h.nd (mem_ofK.1 hi) hki)
  have hlP : lastI P = -1 ∨ ∃ (A : List Nat) (x : Nat), P = A ++ [x] ∧ lastI P = (x : Int) := by
    rcases snoc_cases P with e | ⟨A, x, e⟩
    · left; rw [e]; rfl
    · right; exact ⟨A, x, e, by rw [e, lastI_snoc]⟩
  have hhS : headI S = -1 ∨ ∃ (x : Nat) (B : List Nat), S = x :: B ∧ headI S = (x : Int) := by
    cases S with
    | nil => exact .inl rfl
    | cons x B => exact .inr ⟨x, B, rfl, rfl⟩
  have ati : dropL lk z i (lastI P) (headI S) i = ⟨z, false, 0, 0⟩ := by unfold dropL; exact upd_at _ _ _
  -- a thing that is neither the one ahead nor the one behind
  have far : ∀ j : Nat, j ≠ i → (j : Int) ≠ lastI P → (j : Int) ≠ headI S → dropL lk z i (lastI P) (headI S) j = lk j := by
    intro j h1 h2 h3
    unfold dropL
    rw [upd_far _ _ h1]
    have hl1 : (if lastI P = -1 then lk else upd lk (lastI P).toNat { lk (lastI P).toNat with behind := headI S }) j = lk j := by
      rcases hlP with e | ⟨A, x, e, e2⟩
      · rw [if_pos e]
      · rw [if_neg (by omega), upd_far _ _ (by omega)]
    rcases hhS with e | ⟨x, B, e, e2⟩
    · rw [if_pos e]; exact hl1
    · rw [if_neg (by omega), upd_far _ _ (by omega)]; exact hl1
  have atP : ∀ (A : List Nat) (x : Nat), P = A ++ [x] → dropL lk z i (lastI P) (headI S) x = { lk x with behind := headI S } := by
    intro A x e
    have e2 : lastI P = (x : Int) := by rw [e, lastI_snoc]
    have hxi : x ≠ i := fun hx => hP (by rw [e, hx]; simp)
    have hxS : x ∉ S := hPS x (by rw [e]; simp)
    have hxh : (x : Int) ≠ headI S := by
      rcases hhS with e3 | ⟨y, B, e3, e4⟩
      · omega
      · intro q
        have hxy : x = y := by omega
        exact hxS (by rw [e3, hxy]; simp)
    unfold dropL
    rw [upd_far _ _ hxi, e2]
    have hl1 : (if (x : Int) = -1 then lk else upd lk ((x : Int)).toNat { lk ((x : Int)).toNat with behind := headI S }) x = { lk x with behind := headI S } := by
      rw [if_neg (by omega), Int.toNat_natCast, upd_at]
    rcases hhS with e3 | ⟨y, B, e3, e4⟩
    · rw [if_pos e3]; exact hl1
    · rw [if_neg (by omega), upd_far _ _ (by omega)]; exact hl1
  have atS : ∀ (x : Nat) (B : List Nat), S = x :: B → dropL lk z i (lastI P) (headI S) x = { lk x with ahead := lastI P } := by
    intro x B e
    have e2 : headI S = (x : Int) := by rw [e]; rfl
    have hxi : x ≠ i := fun hx => hS (by rw [e, hx]; simp)
    have hxl : (x : Int) ≠ lastI P := by
      rcases hlP with e3 | ⟨A, y, e3, e4⟩
      · omega
      · intro q
        refine hPS y (by rw [e3]; simp) ?_
        have : x = y := by omega
        rw [e, ← this]
        simp
    unfold dropL
    rw [upd_far _ _ hxi, e2, if_neg (by omega), Int.toNat_natCast, upd_at]
    rcases hlP with e3 | ⟨A, y, e3, e4⟩
    · rw [if_pos e3]
    · rw [if_neg (by omega), upd_far _ _ (by omega)]
  refine ⟨?_, ?_, ?_, ?_, ?_⟩
  · intro p hp
    exact h.lt p (List.mem_filter.1 hp).1
  · exact h.nd.sublist (List.Sublist.map _ List.filter_sublist)
  · intro k' A j B e
    rw [hof] at e
    by_cases hk : k' = k
    · subst hk
      rw [if_pos rfl] at e
      rcases List.append_eq_append_iff.1 e with ⟨A', e1, e2⟩ | ⟨A', e1, e2⟩
      · -- A = P ++ A', S = A' ++ j :: B
        have hj : j ∈ S := by rw [e2]; simp
        have hl := h.link k' (P ++ i :: A') j B (by rw [hF, e2]; simp)
        have hji : j ≠ i := fun q => hS (q ▸ hj)
        have hjP : (j : Int) ≠ lastI P := by
          rcases hlP with e3 | ⟨A2, y, e3, e4⟩
          · omega
          · intro q
            exact hPS y (by rw [e3]; simp) (by have : j = y := by omega
                                               rw [← this]; exact hj)
        rw [lastI_app] at hl
        cases A' with
        | nil =>
          rw [List.nil_append] at e2
          rw [atS j B e2, hl, e1]
          simp
        | cons y r =>
          have hnS : S.Nodup := (List.nodup_cons.1 (List.nodup_append.1 hnd).2.1).2
          have hjh : (j : Int) ≠ headI S := by
            rw [e2]
            intro q
            have q' : (j : Int) = (y : Int) := q
            have : j = y := by omega
            rw [e2, this] at hnS
            exact (List.nodup_cons.1 hnS).1 (by simp)
          rw [far j hji hjP hjh, hl, e1]
          congr 1
          rw [lastI_app]
          exact lastI_app [i] r y
      · -- P = A ++ A', j :: B = A' ++ S
        cases A' with
        | nil =>
          rw [List.nil_append] at e2
          rw [List.append_nil] at e1
          have hl := h.link k' (P ++ [i]) j B (by rw [hF, ← e2]; simp)
          rw [lastI_snoc] at hl
          rw [atS j B e2.symm, hl, e1]
        | cons y r =>
          rw [List.cons_append, List.cons.injEq] at e2
          obtain ⟨rfl, rfl⟩ := e2
          have hj : j ∈ P := by rw [e1]; simp
          have hl := h.link k' A j (r ++ i :: S) (by rw [hF, e1]; simp)
          have hji : j ≠ i := fun q => hP (q ▸ hj)
          have hjh : (j : Int) ≠ headI S := by
            rcases hhS with e3 | ⟨x, B, e3, e4⟩
            · omega
            · intro q
              refine hPS j hj ?_
              have : j = x := by omega
              rw [e3, this]
              simp
          rcases snoc_cases r with rfl | ⟨r2, y, rfl⟩
          · rw [atP A j e1, hl]
            rfl
          · have hjP : (j : Int) ≠ lastI P := by
              have hnP : P.Nodup := (List.nodup_append.1 hnd).1
              rw [e1] at hnP ⊢
              rw [show A ++ j :: (r2 ++ [y]) = (A ++ j :: r2) ++ [y] by simp, lastI_snoc]
              intro q
              have hjy : j = y := by omega
              have := (List.nodup_cons.1 (List.nodup_append.1 hnP).2.1).1
              exact this (by rw [hjy]; simp)
            rw [far j hji hjP hjh, hl]
            cases r2 <;> rfl
    · rw [if_neg hk] at e
      have hj : j ∈ ofK L k' := by rw [e]; simp
      have hjk : ∀ x, x ∈ ofK L k → j ≠ x := fun x hx q => hk (key_once h.nd (mem_ofK.1 hj) (mem_ofK.1 (q ▸ hx)))
      have hji : j ≠ i := hjk i (by rw [hF]; simp)
      have hjP : (j : Int) ≠ lastI P := by
        rcases hlP with e3 | ⟨A2, y, e3, e4⟩
        · omega
        · intro q
          exact hjk y (by rw [hF, e3]; simp) (by omega)
      have hjh : (j : Int) ≠ headI S := by
        rcases hhS with e3 | ⟨x, B, e3, e4⟩
        · omega
        · intro q
          exact hjk x (by rw [hF, e3]; simp) (by omega)
      rw [far j hji hjP hjh, h.link k' A j B e]
  · intro j hj
    by_cases hji : j = i
    · subst hji; exact ati
    · have hjL : ∀ p ∈ L, p.2 ≠ j := fun p hp q => hj p (List.mem_filter.2 ⟨hp, by simp only [decide_eq_true_eq]; rw [q]; exact hji⟩) q
      have hjk : ∀ x, x ∈ ofK L k → j ≠ x := fun x hx q => hjL _ (mem_ofK.1 hx) q.symm
      have hjP : (j : Int) ≠ lastI P := by
        rcases hlP with e3 | ⟨A2, y, e3, e4⟩
        · omega
        · intro q
          exact hjk y (by rw [hF, e3]; simp) (by omega)
      have hjh : (j : Int) ≠ headI S := by
        rcases hhS with e3 | ⟨x, B, e3, e4⟩
        · omega
        · intro q
          exact hjk x (by rw [hF, e3]; simp) (by omega)
      rw [far j hji hjP hjh, h.out j hjL]
  · intro k'
    rw [hof]
    by_cases hk : k' = k
    · rw [if_pos hk, if_pos hk]
    · rw [if_neg hk, if_neg hk, h.hd]
end
end Go.Proofs.Ytelnembjcgkiaaa
