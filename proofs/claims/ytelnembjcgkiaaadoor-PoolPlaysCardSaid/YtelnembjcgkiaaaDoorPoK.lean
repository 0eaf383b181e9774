/- No handle is told twice: the plain law, and what is kept between rounds. -/
import Derived.Test.YtelnembjcgkiaaaDoorPoI
import Derived.Test.YtelnembjcgkiaaaDoorGrowB
namespace Go.Proofs.YtelnembjcgkiaaaDoor
open Go.RowKit
set_option linter.unusedVariables false
set_option linter.unusedSimpArgs false
theorem exists_free {p : Po} (h : p.cnt < p.room) : ∃ x, x < p.room ∧ p.tk x = false ∧ ∀ y, y < x → p.tk y = true := by
  have hex : ∃ x, x < p.room ∧ p.tk x = false := by
    apply Classical.byContradiction
    intro hn
    have hall : ∀ i, i < p.room → p.tk i = true := fun i hi => by
      cases hq : p.tk i with
      | true => rfl
      | false => exact absurd ⟨i, hi, hq⟩ hn
    have := cntB_full p.tk p.room hall
    unfold Po.cnt at h
    omega
  obtain ⟨x, hx, hf⟩ := hex
  induction x using Nat.strongRecOn with
  | _ x ih =>
    by_cases hl : ∃ j, j < x ∧ p.tk j = false
    · obtain ⟨j, hj, hjf⟩ := hl
      exact ih j hj (by omega) hjf
    · refine ⟨x, hx, hf, fun y hy => ?_⟩
      cases hq : p.tk y with
      | true => rfl
      | false => exact absurd ⟨y, hy, hq⟩ hl
theorem all_taken {p : Po} (h : ¬ p.cnt < p.room) : ∀ y, y < p.room → p.tk y = true := fun y hy => by
  cases hq : p.tk y with
  | true => rfl
  | false => exact absurd (cntB_free p.tk p.room y hy hq) h
structure Inv (p : Po) (R a c : Nat) (T G : List Int) : Prop where
  ok : p.ok
  room : p.room = R
  old : ∀ x, p.old x ≤ c
  len : T.length = G.length + p.cnt
  tl : T.length ≤ a
  told : ∀ h ∈ T, ∃ x g : Nat, x < R ∧ h = ((g : Int) + 1) * 4096 + x ∧ (g < p.old x ∨ (g = p.old x ∧ p.tk x = true))
  gone : ∀ h ∈ G, ∃ x g : Nat, x < R ∧ h = ((g : Int) + 1) * 4096 + x ∧ g < p.old x
theorem Inv.start {R : Nat} (h1 : 1 ≤ R) (h2 : R ≤ 4096) : Inv (Po.new R) R 0 0 [] [] :=
  ⟨new_ok h1 h2, rfl, fun x => Nat.le_refl _, by rw [new_cnt]; rfl, Nat.le_refl _, by simp, by simp⟩
theorem Inv.cnt_le {p : Po} {R a c : Nat} {T G : List Int} (h : Inv p R a c T G) : p.cnt ≤ R := by
  have := cntB_le p.tk p.room
  rw [← h.room]
  exact this
theorem Inv.mono {p : Po} {R a c a' c' : Nat} {T G : List Int} (h : Inv p R a c T G) (ha : a ≤ a') (hc : c ≤ c') : Inv p R a' c' T G :=
  { h with old := fun x => Nat.le_trans (h.old x) hc, tl := Nat.le_trans h.tl ha }
theorem Inv.range {p : Po} {R a c : Nat} {T G : List Int} (h : Inv p R a c T G) (hc : c ≤ 1000) {v : Int} (hv : v ∈ T) : 0 ≤ v ∧ v ≤ 18446744073709551615 := by
  obtain ⟨x, g, hx, rfl, hg⟩ := h.told v hv
  have := h.ok.r2
  have h1 := h.room
  have h2 := h.old x
  omega
theorem Inv.rangeG {p : Po} {R a c : Nat} {T G : List Int} (h : Inv p R a c T G) (hc : c ≤ 1000) {v : Int} (hv : v ∈ G) : 0 ≤ v ∧ v ≤ 18446744073709551615 := by
  obtain ⟨x, g, hx, rfl, hg⟩ := h.gone v hv
  have := h.ok.r2
  have h1 := h.room
  have h2 := h.old x
  omega
/-- A new handle is none that was told. -/
theorem Inv.fresh {p : Po} {R a c : Nat} {T G : List Int} (h : Inv p R a c T G) {x : Nat} (hx : x < R) (hf : p.tk x = false) {v : Int} (hm : v ∈ T) : v ≠ hv p x := by
  obtain ⟨y, g, hy, rfl, hg⟩ := h.told v hm
  have hr := h.ok.r2
  have hro := h.room
  intro e
  unfold Go.Proofs.YtelnembjcgkiaaaDoor.hv at e
  have hxy : y = x := by omega
  subst hxy
  have hgo : g = p.old y := by omega
  rcases hg with hg | ⟨_, ht⟩
  · omega
  · rw [hf] at ht; cases ht
theorem Inv.put {p : Po} {R a c : Nat} {T G : List Int} (h : Inv p R a c T G) {x : Nat} (hx : x < R) (hf : p.tk x = false) (e : Int × Int × Int) : Inv (p.put x e) R (a + 1) c (T ++ [hv p x]) G where
  ok := put_ok h.ok x (by rw [h.room]; exact hx) e
  room := h.room
  old := h.old
  len := by rw [List.length_append, put_cnt p x e (by rw [h.room]; exact hx) hf, h.len]; simp; omega
  tl := by rw [List.length_append]; have := h.tl; simp; omega
  told := fun v hv' => by
    rcases List.mem_append.1 hv' with hm | hm
    · obtain ⟨y, g, hy, rfl, hg⟩ := h.told v hm
      refine ⟨y, g, hy, rfl, ?_⟩
      rcases hg with hg | ⟨hg, ht⟩
      · exact .inl hg
      · exact .inr ⟨hg, by rw [put_tk]; split <;> first | rfl | exact ht⟩
    · simp only [List.mem_singleton] at hm
      subst hm
      exact ⟨x, p.old x, hx, rfl, .inr ⟨rfl, by rw [put_tk, if_pos rfl]⟩⟩
  gone := h.gone
/-- A handle that went is no handle. -/
theorem dead {p : Po} (ok : p.ok) {x g : Nat} (hx : x < p.room) (hg : g < p.old x) : (findI p (((g : Int) + 1) * 4096 + x)).2 = false := by
  have hr := ok.r2
  unfold findI
  dsimp only
  have hm : (((g : Int) + 1) * 4096 + x) % 4096 = (x : Int) := by omega
  rw [hm]
  have : (hv p (x : Int) == ((g : Int) + 1) * 4096 + x) = false := by
    unfold hv
    apply beq_f
    omega
  rw [this, Bool.and_false]
theorem Inv.dead {p : Po} {R a c : Nat} {T G : List Int} (h : Inv p R a c T G) {v : Int} (hv : v ∈ G) : (findI p v).2 = false := by
  obtain ⟨x, g, hx, rfl, hg⟩ := h.gone v hv
  exact Go.Proofs.YtelnembjcgkiaaaDoor.dead h.ok (by rw [h.room]; exact hx) hg
/-- What was told is a handle still, or isn't. -/
theorem Inv.either {p : Po} {R a c : Nat} {T G : List Int} (h : Inv p R a c T G) {v : Int} (hv : v ∈ T) : (findI p v).2 = false ∨ ∃ x, x < R ∧ p.tk x = true ∧ v = Go.Proofs.YtelnembjcgkiaaaDoor.hv p x := by
  obtain ⟨x, g, hx, rfl, hg⟩ := h.told v hv
  rcases hg with hg | ⟨rfl, ht⟩
  · exact .inl (Go.Proofs.YtelnembjcgkiaaaDoor.dead h.ok (by rw [h.room]; exact hx) hg)
  · exact .inr ⟨x, hx, ht, rfl⟩
theorem Inv.drop {p : Po} {R a c : Nat} {T G : List Int} (h : Inv p R a c T G) (hc : c ≤ 1000) {x : Nat} (hx : x < R) (ht : p.tk x = true) : Inv (p.drop x) R a (c + 1) T (G ++ [hv p x]) := by
  have hol : ∀ y : Nat, p.old y ≤ (p.drop x).old y := fun y => by
    unfold Po.drop
    dsimp only
    split
    · rename_i e; rw [e]; omega
    · exact Nat.le_refl _
  have hox : (p.drop x).old (x : Int) = p.old (x : Int) + 1 := by unfold Po.drop; simp
  exact {
    ok := drop_ok h.ok x (by have := h.old x; omega)
    room := h.room
    old := fun y => by
      unfold Po.drop
      dsimp only
      have := h.old y
      have := h.old x
      split <;> omega
    len := by rw [List.length_append, h.len, drop_cnt p x (by rw [h.room]; exact hx) ht]; simp; omega
    tl := h.tl
    told := fun v hv' => by
      obtain ⟨y, g, hy, rfl, hg⟩ := h.told v hv'
      refine ⟨y, g, hy, rfl, ?_⟩
      by_cases hyx : y = x
      · subst hyx
        left
        rw [hox]
        rcases hg with hg | ⟨hg, _⟩ <;> omega
      · rcases hg with hg | ⟨hg, ht'⟩
        · exact .inl (Nat.lt_of_lt_of_le hg (hol y))
        · right
          have : (p.drop x).old (y : Int) = p.old (y : Int) := by
            unfold Po.drop
            dsimp only
            rw [if_neg (by omega)]
          exact ⟨by rw [this]; exact hg, by rw [drop_tk, if_neg hyx]; exact ht'⟩
    gone := fun v hv' => by
      rcases List.mem_append.1 hv' with hm | hm
      · obtain ⟨y, g, hy, rfl, hg⟩ := h.gone v hm
        exact ⟨y, g, hy, rfl, Nat.lt_of_lt_of_le hg (hol y)⟩
      · simp only [List.mem_singleton] at hm
        subst hm
        exact ⟨x, p.old x, hx, rfl, by rw [hox]; omega⟩ }
/-! ### What lies in memory between two steps -/
structure PoW (w : World) (base b be bo bt : Nat) (p : Po) (v1 : Value) (T : List Int) (v2 : Value) (G : List Int) (wr : World) : Prop where
  pat : PoAt wr b be bo bt p
  tab : Tab wr
  bel : Below w.heap.size w wr
  o1 : wr.ownsRow base 23 1 v1 T.length (T.map (Value.int .u64))
  o2 : wr.ownsRow base 23 1 v2 G.length (G.map (Value.int .u64))
  dis : ∀ g, v1.ownBlock = some g → v2.ownBlock ≠ some g
  sz : base ≤ wr.heap.size
structure PoC (w : World) (base b be bo bt : Nat) : Prop where
  tb : 0 < w.heap.size
  lo : w.heap.size ≤ be ∧ w.heap.size ≤ bo ∧ w.heap.size ≤ bt ∧ w.heap.size ≤ b
  hi : b < base ∧ be < base ∧ bo < base ∧ bt < base
section
variable {w : World} {base b be bo bt : Nat} {p : Po} {v1 : Value} {T : List Int} {v2 : Value} {G : List Int} {wr w' : World}
theorem PoW.ext (h : PoW w base b be bo bt p v1 T v2 G wr) (hb : Below wr.heap.size wr w') : PoW w base b be bo bt p v1 T v2 G w' :=
  ⟨h.pat.ext hb, h.tab.ext hb, below_then h.bel hb, ownsRow_only h.o1 (only_of hb fun _ => False) (fun _ _ h => h), ownsRow_only h.o2 (only_of hb fun _ => False) (fun _ _ h => h), h.dis, Nat.le_trans h.sz hb.size⟩
theorem PoW.pool (h : PoW w base b be bo bt p v1 T v2 G wr) (C : PoC w base b be bo bt) (ho : Only (S3 be bo bt) wr w') {p' : Po} (hp : PoAt w' b be bo bt p') : PoW w base b be bo bt p' v1 T v2 G w' := by
  have c1 := C.lo
  have c2 := C.hi
  have c3 := C.tb
  have hs : ∀ g, base ≤ g → ¬ S3 be bo bt g := fun g hg => by unfold S3; omega
  exact ⟨hp, h.tab.only ho (by unfold S3; omega), Only.below h.bel ho (fun k hk => by unfold S3 at hk; omega) h.bel.size, ownsRow_only h.o1 ho (fun g hg => hs g (ownsRow_base h.o1 g hg).1), ownsRow_only h.o2 ho (fun g hg => hs g (ownsRow_base h.o2 g hg).1), h.dis, Nat.le_trans h.sz ho.size⟩
theorem PoW.grow1 (h : PoW w base b be bo bt p v1 T v2 G wr) (C : PoC w base b be bo bt) (hw : w.heap.size ≤ base) {v' : Value} {x : Int} (hown : w'.ownsRow base 23 1 v' (T.length + 1) (T.map (Value.int .u64) ++ [.int .u64 x])) (ho : Only (fun k => some k = v1.ownBlock) wr w')
    (hat : v'.ownBlock = v1.ownBlock ∨ v'.ownBlock = some (wr.heap.size + 1)) : PoW w base b be bo bt p v' (T ++ [x]) v2 G w' := by
  have c2 := C.hi
  have c3 := C.tb
  have hs : ∀ g, g < base → ¬ (some g = v1.ownBlock) := fun g hg e => by have := (ownsRow_base h.o1 g e.symm).1; omega
  refine ⟨h.pat.only ho (hs _ c2.1) (hs _ c2.2.1) (hs _ c2.2.2.1) (hs _ c2.2.2.2), h.tab.only ho (hs _ (by omega)), Only.below h.bel ho (fun k hk => by have := (ownsRow_base h.o1 k hk.symm).1; omega) h.bel.size, ?_, ownsRow_only h.o2 ho (fun g hg e => h.dis g e.symm hg), ?_, Nat.le_trans h.sz ho.size⟩
  · rw [map_snoc] at hown
    simpa using hown
  · intro g hg e
    rcases hat with hat | hat
    · rw [hat] at hg
      exact h.dis g hg e
    · rw [hat] at hg
      have := (ownsRow_base h.o2 g e).2
      injection hg with hg
      omega
theorem PoW.grow2 (h : PoW w base b be bo bt p v1 T v2 G wr) (C : PoC w base b be bo bt) (hw : w.heap.size ≤ base) {v' : Value} {x : Int} (hown : w'.ownsRow base 23 1 v' (G.length + 1) (G.map (Value.int .u64) ++ [.int .u64 x])) (ho : Only (fun k => some k = v2.ownBlock) wr w')
    (hat : v'.ownBlock = v2.ownBlock ∨ v'.ownBlock = some (wr.heap.size + 1)) : PoW w base b be bo bt p v1 T v' (G ++ [x]) w' := by
  have c2 := C.hi
  have c3 := C.tb
  have hs : ∀ g, g < base → ¬ (some g = v2.ownBlock) := fun g hg e => by have := (ownsRow_base h.o2 g e.symm).1; omega
  refine ⟨h.pat.only ho (hs _ c2.1) (hs _ c2.2.1) (hs _ c2.2.2.1) (hs _ c2.2.2.2), h.tab.only ho (hs _ (by omega)), Only.below h.bel ho (fun k hk => by have := (ownsRow_base h.o2 k hk.symm).1; omega) h.bel.size, ownsRow_only h.o1 ho (fun g hg e => h.dis g hg e.symm), ?_, ?_, Nat.le_trans h.sz ho.size⟩
  · rw [map_snoc] at hown
    simpa using hown
  · intro g hg e
    rcases hat with hat | hat
    · rw [hat] at e
      exact h.dis g hg e
    · rw [hat] at e
      have := (ownsRow_base h.o1 g hg).2
      injection e with e
      omega
/-- An element of a row of numbers. -/
theorem own_cell {L : List Int} {v : Value} (h : wr.ownsRow base 23 1 v L.length (L.map (Value.int .u64))) (hp : 0 < L.length) : ∃ g cap, v = .slice (some ⟨g, 0, none⟩) L.length cap ∧ g < wr.heap.size ∧ ∀ i x, L[i]? = some x → wr.cell? ⟨g, i, none⟩ = some (.int .u64 x) := by
  obtain ⟨a, cap, h1, h2, h3, h4⟩ := Sl.of_own h
  obtain ⟨g, rfl, hg, -, hc⟩ := h4 hp
  exact ⟨g, cap, h1, hg, fun i x hx => hc i _ (by simp [hx])⟩
end
end Go.Proofs.YtelnembjcgkiaaaDoor
