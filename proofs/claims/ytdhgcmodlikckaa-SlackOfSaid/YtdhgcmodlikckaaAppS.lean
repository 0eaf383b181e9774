/- append(s, l...): a whole slice appended onto a row of the call's own. -/
import Derived.Test.YtdhgcmodlikckaaGrowB
import Derived.Test.YtdhgcmodlikckaaSl
import Derived.Test.YtdhgcmodlikckaaOnly
import Derived.Maps.AppendAt
namespace Go.Proofs.Ytdhgcmodlikckaa
open Go.RowKit
set_option linter.unusedVariables false
set_option linter.unusedSimpArgs false
theorem Lst.sl {kd : IntKind} {w : World} {v : Value} {L : List Int} {ok : Nat → Prop} (h : Lst kd w v L ok) : ∃ a cap, v = .slice a L.length cap ∧ (0 < L.length → ∃ p : Addr, a = some p ∧ ok p.block ∧ ∀ (k : Nat) (u : Value), (L.map (Value.int kd))[k]? = some u → w.cell? (p.add k) = some u) := by
  obtain ⟨a, cap, rfl, -, -, h4⟩ := h
  refine ⟨a, cap, rfl, fun h0 => ?_⟩
  obtain ⟨p, q1, q2, q3, q4⟩ := h4 h0
  refine ⟨p, q1, q3, fun k u hu => ?_⟩
  rw [List.getElem?_map] at hu
  cases hk : L[k]? with
  | none => rw [hk] at hu; cases hu
  | some x =>
    rw [hk] at hu
    obtain ⟨hlt, rfl⟩ := List.getElem?_eq_some_iff.1 hk
    injection hu with hu
    rw [← hu]
    exact q4 k hlt
theorem run_append_nil {P : Program} (w : World) (base : Nat) (t ty e : TypeId) (i : TypeInfo) (size : Nat) (ht : P.underlying t = some (.slice e)) (hi : P.info? e = some i) (hsize : i.size = size)
    (v : Value) (n : Nat) (xs : List Value) (hown : w.ownsRow base e size v n xs) (x : Option Addr) (c : Nat) (hx : x = none) :
    (Builtin.append_ #[t, t] ty #[v, .slice x 0 c]).run P w = .ok v w := by
  subst hx
  have hz : (match (TypeDesc.slice e) with | .int _ => true | _ => false) = false := rfl
  rcases hown.2 with ⟨rfl, rfl⟩ | ⟨g, cap, cur, rfl, hb, hg, hn, -⟩
  · unfold Builtin.append_
    simp [run_underlying ht, sizeOf, typeInfo, hi, Builtin.lenOf, Builtin.firstCells, go_sem]
  · unfold Builtin.append_
    simp [run_underlying ht, sizeOf, typeInfo, hi, Builtin.lenOf, Builtin.firstCells, go_sem, hn]
/-- The elements of a slice are appended to a row of the call's own, behind a guard that says yes or none. -/
theorem wpList_append_l {P : Program} {ops : Array Oper} {rest : List Oper} {o : Oper} {a : Act} {Q : Exit → Act → World → Prop} {wr : World} (hw : Region.wanted o (yielded ops a.tmps) = true) (s x : Operand) (t : TypeId)
    (ho : o.op = .call { callee := .builtin .append, args := #[s, x], argTypes := #[t, t] }) (base : Nat) (e : TypeId) (sz by_ : Nat) (hT : P.underlying t = some (.slice e))
    (hI : (P.info? e).map (fun i => (i.zero.map (·.cells.size), i.size, i.bytes)) = some (some sz, sz, by_)) (hsz : 0 < sz) (hby : by_ ≤ 1000)
    (v : Value) (n : Nat) (xs : List Value) (hs : a.eval s = v) (hown : wr.ownsRow base e sz v n xs) (u : Value) (m : Nat) (cs : List Value) (hx : a.eval x = u)
    (hu : ∃ b c, u = .slice b m c ∧ (0 < m → ∃ p : Addr, b = some p ∧ ∀ (k : Nat) (y : Value), cs[k]? = some y → wr.cell? (p.add k) = some y)) (hl : cs.length = m * sz)
    (h1 : ∀ y ∈ cs, y.oneCell' = true) (hn : n + m ≤ 1000000000) (hbase : base ≤ wr.heap.size)
    (h : ∀ v' w', w'.ownsRow base e sz v' (n + m) (xs ++ cs) → Only (fun k => some k = v.ownBlock) wr w' → (v'.ownBlock = v.ownBlock ∨ v'.ownBlock = some wr.heap.size) → wpList P ops Q rest (a.put o.dst v') w') :
    wpList P ops Q (o :: rest) a wr := by
  obtain ⟨b, c, rfl, hp⟩ := hu
  cases hi : P.info? e with
  | none => rw [hi] at hI; simp at hI
  | some i =>
    rw [hi] at hI
    simp only [Option.map_some, Option.some.injEq, Prod.mk.injEq] at hI
    obtain ⟨e1, e2, e3⟩ := hI
    cases hz : i.zero with
    | none => rw [hz] at e1; simp at e1
    | some z =>
      rw [hz] at e1
      simp only [Option.map_some, Option.some.injEq] at e1
      refine BigFrame.wpList_want hw fun K hK => ?_
      by_cases hm : m = 0 ∧ b = none
      · obtain ⟨rfl, rfl⟩ := hm
        have hcs : cs = [] := List.eq_nil_of_length_eq_zero (by rw [hl]; simp)
        subst hcs
        have hr := run_append_nil (P := P) wr base t o.type e i sz hT hi e2 v n xs hown none c rfl
        unfold Oper.wp execOp
        simp only [ho, resolve, invoke, builtin, Sem.run_bind, Sem.run_pure, Result.andThen_ok, List.map_toArray, List.map_cons, List.map_nil, hs, hx, hr]
        exact hK _ _ (h v wr (by simpa using hown) (Only.refl _ _) (.inl rfl))
      · obtain ⟨p, hb, hc⟩ : ∃ p : Addr, b = some p ∧ ∀ (k : Nat) (y : Value), cs[k]? = some y → wr.cell? (p.add k) = some y := by
          by_cases hm0 : m = 0
          · cases b with
            | none => exact absurd ⟨hm0, rfl⟩ hm
            | some p =>
              refine ⟨p, rfl, fun k y hk => ?_⟩
              have hcs : cs = [] := List.eq_nil_of_length_eq_zero (by rw [hl, hm0]; simp)
              rw [hcs] at hk
              cases hk
          · exact hp (by omega)
        subst hb
        have hby2 : (n + m) * by_ ≤ 140737488355328 := by
          have : (n + m) * by_ ≤ 1000000000 * 1000 := Nat.mul_le_mul hn hby
          omega
        obtain ⟨v', w', hr, h2, h3, h4, h5⟩ := run_append_own_at (P := P) (w := wr) base t o.type e i z sz by_ hT hi hz e2 e3 e1 hsz v n xs hown p m c cs hl hc h1 (by unfold maxLen; omega) hby2 hbase
        unfold Oper.wp execOp
        simp only [ho, resolve, invoke, builtin, Sem.run_bind, Sem.run_pure, Result.andThen_ok, List.map_toArray, List.map_cons, List.map_nil, hs, hx, hr]
        exact hK _ _ (h v' w' h2 ⟨h3.os, h3.tape, h3.output, h3.size, fun k hk hne => h3.block k hk (fun q => hne q)⟩ h5)
theorem run_append_l {P : Program} {wr : World} (t ty : TypeId) (base : Nat) (e : TypeId) (sz by_ : Nat) (hT : P.underlying t = some (.slice e))
    (hI : (P.info? e).map (fun i => (i.zero.map (·.cells.size), i.size, i.bytes)) = some (some sz, sz, by_)) (hsz : 0 < sz) (hby : by_ ≤ 1000)
    (v : Value) (n : Nat) (xs : List Value) (hown : wr.ownsRow base e sz v n xs) (u : Value) (m : Nat) (cs : List Value)
    (hu : ∃ b c, u = .slice b m c ∧ (0 < m → ∃ p : Addr, b = some p ∧ ∀ (k : Nat) (y : Value), cs[k]? = some y → wr.cell? (p.add k) = some y)) (hl : cs.length = m * sz)
    (h1 : ∀ y ∈ cs, y.oneCell' = true) (hn : n + m ≤ 1000000000) (hbase : base ≤ wr.heap.size) :
    ∃ v' w', (Builtin.append_ #[t, t] ty #[v, u]).run P wr = .ok v' w' ∧ w'.ownsRow base e sz v' (n + m) (xs ++ cs) ∧ Only (fun k => some k = v.ownBlock) wr w' ∧ (v'.ownBlock = v.ownBlock ∨ v'.ownBlock = some wr.heap.size) := by
  obtain ⟨b, c, rfl, hp⟩ := hu
  cases hi : P.info? e with
  | none => rw [hi] at hI; simp at hI
  | some i =>
    rw [hi] at hI
    simp only [Option.map_some, Option.some.injEq, Prod.mk.injEq] at hI
    obtain ⟨e1, e2, e3⟩ := hI
    cases hz : i.zero with
    | none => rw [hz] at e1; simp at e1
    | some z =>
      rw [hz] at e1
      simp only [Option.map_some, Option.some.injEq] at e1
      by_cases hm : m = 0 ∧ b = none
      · obtain ⟨rfl, rfl⟩ := hm
        have hcs : cs = [] := List.eq_nil_of_length_eq_zero (by rw [hl]; simp)
        subst hcs
        exact ⟨v, wr, run_append_nil (P := P) wr base t ty e i sz hT hi e2 v n xs hown none c rfl, by simpa using hown, Only.refl _ _, .inl rfl⟩
      · obtain ⟨p, hb, hc⟩ : ∃ p : Addr, b = some p ∧ ∀ (k : Nat) (y : Value), cs[k]? = some y → wr.cell? (p.add k) = some y := by
          by_cases hm0 : m = 0
          · cases b with
            | none => exact absurd ⟨hm0, rfl⟩ hm
            | some p =>
              refine ⟨p, rfl, fun k y hk => ?_⟩
              have hcs : cs = [] := List.eq_nil_of_length_eq_zero (by rw [hl, hm0]; simp)
              rw [hcs] at hk
              cases hk
          · exact hp (by omega)
        subst hb
        have hby2 : (n + m) * by_ ≤ 140737488355328 := by
          have : (n + m) * by_ ≤ 1000000000 * 1000 := Nat.mul_le_mul hn hby
          omega
        obtain ⟨v', w', hr, h2, h3, h4, h5⟩ := run_append_own_at (P := P) (w := wr) base t ty e i z sz by_ hT hi hz e2 e3 e1 hsz v n xs hown p m c cs hl hc h1 (by unfold maxLen; omega) hby2 hbase
        exact ⟨v', w', hr, h2, ⟨h3.os, h3.tape, h3.output, h3.size, fun k hk hne => h3.block k hk (fun q => hne q)⟩, h5⟩
/-- An append whose run is known, as an operation by itself. -/
theorem wp_append_eq {P : Program} {o : Oper} {a : Act} {Q : Exit → Act → World → Prop} {K : Act → World → Prop} {w w' : World} {r : Value} (v u : Value) (t ty : TypeId) (hty : o.type = ty) (s x : Operand)
    (ho : o.op = .call { callee := .builtin .append, args := #[s, x], argTypes := #[t, t] }) (hs : a.eval s = v) (hx : a.eval x = u) (hr : (Builtin.append_ #[t, t] ty #[v, u]).run P w = .ok r w')
    (h : K (a.put o.dst r) w') : o.wp P a w K Q := by
  subst hty
  unfold Oper.wp execOp
  simp only [ho, resolve, invoke, builtin, Sem.run_bind, Sem.run_pure, Result.andThen_ok, List.map_toArray, List.map_cons, List.map_nil, hs, hx, hr]
  exact h
/-- An append whose run is known. -/
theorem wpList_append_eq {P : Program} {ops : Array Oper} {rest : List Oper} {o : Oper} {a : Act} {Q : Exit → Act → World → Prop} {w w' : World} {v u r : Value} (hw : Region.wanted o (yielded ops a.tmps) = true) (s x : Operand) (t : TypeId)
    (ho : o.op = .call { callee := .builtin .append, args := #[s, x], argTypes := #[t, t] }) (hs : a.eval s = v) (hx : a.eval x = u) (hr : (Builtin.append_ #[t, t] o.type #[v, u]).run P w = .ok r w')
    (h : wpList P ops Q rest (a.put o.dst r) w') : wpList P ops Q (o :: rest) a w := by
  refine BigFrame.wpList_want hw fun K hK => ?_
  unfold Oper.wp execOp
  simp only [ho, resolve, invoke, builtin, Sem.run_bind, Sem.run_pure, Result.andThen_ok, List.map_toArray, List.map_cons, List.map_nil, hs, hx, hr]
  exact hK _ _ h
end Go.Proofs.Ytdhgcmodlikckaa
