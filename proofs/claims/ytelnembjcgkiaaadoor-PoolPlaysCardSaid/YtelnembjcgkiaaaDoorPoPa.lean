/- The state of a pool and the document's, held side by side. -/
import Derived.Test.YtelnembjcgkiaaaDoorPoAl
import Derived.Test.YtelnembjcgkiaaaDoorPoI
import Derived.Test.YtelnembjcgkiaaaDoorPoV
import Derived.Test.YtelnembjcgkiaaaDoorArgs
namespace Go.Proofs.YtelnembjcgkiaaaDoor
open Go.RowKit
set_option linter.unusedVariables false
set_option linter.unusedSimpArgs false
set_option linter.unusedSectionVars false
theorem Sl.only {w w' : World} {v : Value} {n : Nat} {cs : List Value} {ok S : Nat → Prop} (h : Sl w v n cs ok) (ho : Only S w w') (hs : ∀ g, ok g → ¬ S g) : Sl w' v n cs ok := by
  obtain ⟨a, cap, h1, h2, h3, h4⟩ := h
  exact ⟨a, cap, h1, h2, h3, fun h0 => by obtain ⟨g, q1, q2, q3, q4⟩ := h4 h0; exact ⟨g, q1, Nat.lt_of_lt_of_le q2 ho.size, q3, fun k u hu => cell_only (q4 k u hu) ho (hs _ q3)⟩⟩
theorem Sl.here {w : World} {v : Value} {n : Nat} {cs : List Value} {ok : Nat → Prop} (h : Sl w v n cs ok) : Sl w v n cs (fun g => ok g ∧ g < w.heap.size) := by
  obtain ⟨a, cap, h1, h2, h3, h4⟩ := h
  exact ⟨a, cap, h1, h2, h3, fun h0 => by obtain ⟨g, q1, q2, q3, q4⟩ := h4 h0; exact ⟨g, q1, q2, ⟨q3, q2⟩, q4⟩⟩
theorem PoAt.lts {w : World} {b be bo bt : Nat} {p : Po} (h : PoAt w b be bo bt p) : b < w.heap.size ∧ be < w.heap.size ∧ bo < w.heap.size ∧ bt < w.heap.size := by
  obtain ⟨M1, c1, M2, c2, ws, q⟩ := h
  exact ⟨q.row.lt, q.m1.lt, q.m2.lt, q.row3.lt⟩
theorem PoAt.ne {w : World} {b be bo bt : Nat} {p : Po} (h : PoAt w b be bo bt p) : ¬ S3 be bo bt b := by
  obtain ⟨M1, c1, M2, c2, ws, q⟩ := h
  rintro (e | e | e)
  · exact q.ne1 e
  · exact q.ne2 e
  · exact q.ne3 e
/-- A pool, the document's places, the told handles. -/
structure PSt (B : Nat) (w : World) (b be bo bt : Nat) (p : Po) (u : Value) (T : List Int) (ct : Value) (R j : Nat) : Prop where
  pat : PoAt w b be bo bt p
  ok : p.ok
  room : p.room = R
  old : ∀ y, p.old y ≤ j
  doc : Sl w u (pts p).length (fl5 (pts p)) (fun g => ¬ S3 be bo bt g ∧ ct.ownBlock ≠ some g)
  told : w.ownsRow B 23 1 ct T.length (T.map (Value.int .u64))
  rng : ∀ t ∈ T, 0 ≤ t ∧ t ≤ 18446744073709551615
  len1 : 1 ≤ T.length
  len2 : T.length ≤ j + 1
  ap : ∀ g, ct.ownBlock = some g → g ≠ b ∧ ¬ S3 be bo bt g
  bs : B ≤ be ∧ B ≤ bo ∧ B ≤ bt
  tab : Tab w
  tb : 0 < B
section
variable {B : Nat} {w w1 w2 : World} {b be bo bt : Nat} {p p' : Po} {u u1 : Value} {T : List Int} {ct ct' : Value} {R j : Nat}
theorem PSt.ext (h : PSt B w b be bo bt p u T ct R j) (hb : Below w.heap.size w w1) : PSt B w1 b be bo bt p u T ct R j :=
  { h with pat := h.pat.ext hb, doc := h.doc.ext hb, told := ownsRow_only h.told (only_of hb (fun _ => False)) (fun _ _ => id), tab := h.tab.ext hb }
theorem PSt.more (h : PSt B w b be bo bt p u T ct R j) : PSt B w b be bo bt p u T ct R (j + 1) :=
  { h with old := fun y => Nat.le_succ_of_le (h.old y), len2 := Nat.le_succ_of_le h.len2 }
theorem PSt.tabS (h : PSt B w b be bo bt p u T ct R j) : ¬ S3 be bo bt 0 := by
  have h1 := h.bs
  have h2 := h.tb
  rintro (e | e | e) <;> omega
/-- The document first, then the pool. -/
theorem PSt.step (h : PSt B w b be bo bt p u T ct R j) (hb : Below w.heap.size w w1) (hu : Sl w1 u1 (pts p').length (fl5 (pts p')) (fun g => w.heap.size ≤ g)) (hA : PoAt w2 b be bo bt p') (ho : Only (S3 be bo bt) w1 w2) (ok' : p'.ok) (room' : p'.room = p.room) (old' : ∀ y, p'.old y ≤ j + 1) : PSt B w2 b be bo bt p' u1 T ct R (j + 1) := by
  have hl := h.pat.lts
  have hs : ∀ g, w.heap.size ≤ g → ¬ S3 be bo bt g := fun g hg => by rintro (e | e | e) <;> omega
  exact { pat := hA, ok := ok', room := room'.trans h.room, old := old', doc := (hu.only ho hs).mono fun g hg => ⟨hs g hg, fun e => by have := (ownsRow_base h.told g e).2; omega⟩, told := ownsRow_only (ownsRow_only h.told (only_of hb (fun _ => False)) (fun _ _ => id)) ho (fun g hg => (h.ap g hg).2), rng := h.rng, len1 := h.len1, len2 := Nat.le_succ_of_le h.len2, ap := h.ap, bs := h.bs, tab := Tab.only (h.tab.ext hb) ho h.tabS, tb := h.tb }
/-- One handle more is told. -/
theorem PSt.grow (h : PSt B w b be bo bt p u T ct R (j + 1)) (hn : T.length ≤ j + 1) (x : Int) (hx : 0 ≤ x ∧ x ≤ 18446744073709551615) (hO : w1.ownsRow B 23 1 ct' (T.length + 1) (T.map (Value.int .u64) ++ [.int .u64 x])) (ho : Only (fun k => some k = ct.ownBlock) w w1) (hk : ct'.ownBlock = ct.ownBlock ∨ ∃ g', ct'.ownBlock = some g' ∧ w.heap.size ≤ g') : PSt B w1 b be bo bt p u (T ++ [x]) ct' R (j + 1) := by
  have hl := h.pat.lts
  have hap : ∀ g, ct'.ownBlock = some g → g ≠ b ∧ ¬ S3 be bo bt g := fun g hg => by
    rcases hk with e | ⟨g', e, hge⟩
    · exact h.ap g (e.symm.trans hg)
    · have e2 : g' = g := by rw [e] at hg; injection hg
      exact ⟨by omega, by rintro (q | q | q) <;> omega⟩
  have hS : ∀ g, g ≠ b ∧ ¬ S3 be bo bt g → True := fun _ _ => trivial
  have hne : ∀ g, some g = ct.ownBlock → g ≠ b ∧ ¬ S3 be bo bt g := fun g hg => h.ap g hg.symm
  exact { pat := h.pat.only ho (fun e => (hne b e).1 rfl) (fun e => (hne be e).2 (.inl rfl)) (fun e => (hne bo e).2 (.inr (.inl rfl))) (fun e => (hne bt e).2 (.inr (.inr rfl))), ok := h.ok, room := h.room, old := h.old
          doc := (h.doc.here.only ho (fun g hg e => hg.1.2 e.symm)).mono fun g hg => ⟨hg.1.1, fun e => by
            rcases hk with q | ⟨g', q, hge⟩
            · exact hg.1.2 (q.symm.trans e)
            · rw [q] at e; injection e with e; have := hg.2; omega⟩
          told := by rw [List.length_append, List.map_append]; exact hO
          rng := fun t ht => by
            rcases List.mem_append.1 ht with q | q
            · exact h.rng t q
            · rw [List.mem_singleton.1 q]; exact hx
          len1 := by rw [List.length_append]; exact Nat.le_add_right_of_le h.len1
          len2 := by rw [List.length_append]; exact Nat.succ_le_succ hn
          ap := hap, bs := h.bs
          tab := Tab.only h.tab ho (fun e => by have h1 := (ownsRow_base h.told _ e.symm).1; have h2 := h.tb; omega)
          tb := h.tb }
/-- On with a copy. -/
theorem PSt.copy {b' be' bo' bt' : Nat} (h : PSt B w b be bo bt p u T ct R j) (hA : PoAt w1 b' be' bo' bt' p) (hb : Below w.heap.size w w1) (hg : w.heap.size ≤ b' ∧ w.heap.size ≤ be' ∧ w.heap.size ≤ bo' ∧ w.heap.size ≤ bt') (ho : Only (S3 be bo bt) w1 w2) : PSt B w2 b' be' bo' bt' p u T ct R (j + 1) := by
  have hl := h.pat.lts
  have hsz := (ownsRow_base h.told)
  have hBB : B ≤ w.heap.size := by have := h.bs; omega
  exact { pat := hA.only ho (by rintro (q | q | q) <;> omega) (by rintro (q | q | q) <;> omega) (by rintro (q | q | q) <;> omega) (by rintro (q | q | q) <;> omega), ok := h.ok, room := h.room, old := fun y => Nat.le_succ_of_le (h.old y)
          doc := ((h.doc.here.ext hb).only ho (fun g hg => hg.1.1)).mono fun g hg' => ⟨by have := hg'.2; rintro (q | q | q) <;> omega, hg'.1.2⟩
          told := ownsRow_only (ownsRow_only h.told (only_of hb (fun _ => False)) (fun _ _ => id)) ho (fun g hg => (h.ap g hg).2)
          rng := h.rng, len1 := h.len1, len2 := Nat.le_succ_of_le h.len2
          ap := fun g hg' => by have := (hsz g hg').2; exact ⟨by omega, by rintro (q | q | q) <;> omega⟩
          bs := by omega, tab := Tab.only (h.tab.ext hb) ho h.tabS, tb := h.tb }
theorem PSt.below {W : World} (h : PSt B w b be bo bt p u T ct R j) (hB : Below B W w) (ho : Only (S3 be bo bt) w w1) : Below B W w1 :=
  Only.below hB ho (fun k hk => by have h1 := h.bs; rcases hk with q | q | q <;> omega) (by have h1 := h.bs; have h2 := h.pat.lts; omega)
end
theorem S3.trans3 {be bo bt : Nat} {x y z : World} (h : Only (S3 be bo bt) x y) (k : Only (S3 be bo bt) y z) : Only (S3 be bo bt) x z := h.trans k
theorem all_upto {f : Nat → Bool} {n : Nat} (h : ∀ y : Nat, y < n → f y = true) (hn : f n = true) : ∀ y : Nat, y < n + 1 → f y = true := by
  intro y hy
  by_cases e : y = n
  · subst e; exact hn
  · exact h y (by omega)
theorem free_upto (f : Nat → Bool) : ∀ n : Nat, (∀ y : Nat, y < n → f y = true) ∨ ∃ x : Nat, x < n ∧ f x = false ∧ ∀ y : Nat, y < x → f y = true
  | 0 => .inl fun y hy => by omega
  | n + 1 => by
    rcases free_upto f n with h | ⟨x, h1, h2, h3⟩
    · cases ht : f n with
      | true => exact .inl (all_upto h ht)
      | false => exact .inr ⟨n, by omega, ht, h⟩
    · exact .inr ⟨x, by omega, h2, h3⟩
/-- The first free place of a pool. -/
theorem free_place (p : Po) : (∀ y : Nat, y < p.room → p.tk y = true) ∨ ∃ x : Nat, x < p.room ∧ p.tk x = false ∧ ∀ y : Nat, y < x → p.tk y = true := free_upto p.tk p.room
theorem pt_tk {p : Po} {y : Nat} (h : y < (pts p).length) : (pts p)[y].2.1 = p.tk y := by rw [pts_get]; rfl
/-- Where a handle is found. -/
theorem find_cases (p : Po) (ok : p.ok) (h : Int) (h0 : 0 ≤ h) : ((findI p h).2 = false ∧ (if (findI p h).2 = true then h % 4096 else -1) = -1) ∨ ∃ X : Nat, (findI p h).2 = true ∧ (if (findI p h).2 = true then h % 4096 else -1) = (X : Int) ∧ h % 4096 = (X : Int) ∧ X < p.room ∧ p.tk X = true ∧ h = hv p (X : Int) := by
  cases hf : (findI p h).2 with
  | false => exact .inl ⟨rfl, by simp⟩
  | true =>
    have hf' := hf
    unfold findI at hf'
    dsimp only at hf'
    rw [Bool.and_eq_true, beq_iff_eq] at hf'
    have hr := ok.inr _ hf'.1
    refine .inr ⟨(h % 4096).toNat, rfl, ?_, by omega, by omega, ?_, ?_⟩
    · rw [if_pos rfl]; omega
    · unfold Po.tk
      rw [show (((h % 4096).toNat : Nat) : Int) = h % 4096 by omega]
      exact hf'.1
    · rw [show (((h % 4096).toNat : Nat) : Int) = h % 4096 by omega]
      exact hf'.2.symm
set_option maxHeartbeats 8000000 in
set_option maxRecDepth 100000 in
theorem new_no (r : Int) (w : World) (h : r < 1 ∨ 4096 < r) :
    Calls Tryd.prog 8 #[.int .i64 r] w fun e w' => e = .returned (.tuple #[.pointer none, .int .i64 5]) ∧ Below w.heap.size w w' := by
  by_cases h1 : r < 1
  · have d1 := dec_t h1
    clear h h1
    go_enter Tryd.func8, Tryd.ntmps8
    go_wp2_with fail
    refine bodyPost_ret (v := .tuple #[.pointer none, .int .i64 5]) (by simp [results, Tryd.results8, go_sem]) rfl ⟨rfl, Below.refl _ _⟩
  · have d1 := dec_f h1
    have d2 := dec_t (h.resolve_left h1)
    clear h h1
    go_enter Tryd.func8, Tryd.ntmps8
    go_wp2_with fail
    refine bodyPost_ret (v := .tuple #[.pointer none, .int .i64 5]) (by simp [results, Tryd.results8, go_sem]) rfl ⟨rfl, Below.refl _ _⟩
theorem own_one (w : World) (x : Int) {base : Nat} (hb : base ≤ w.heap.size) : (w.alloc (.cells #[.int .u64 x] 23 )).ownsRow base 23 1 (.slice (some ⟨w.heap.size, 0, none⟩) 1 1) 1 [.int .u64 x] :=
  ⟨by simp, .inr ⟨w.heap.size, 1, #[.int .u64 x], rfl, hb, heap_alloc_new w _, Nat.le_refl _, by unfold maxLen; omega, by simp, by simp⟩⟩
open Go.Deep
theorem list6 {α : Type} {l : List α} (h : l.length = 6) : ∃ a b c d e f, l = [a, b, c, d, e, f] := by
  match l, h with
  | [a, b, c, d, e, f], _ => exact ⟨a, b, c, d, e, f, rfl⟩
def actSh : List Sh := [.int .i64, .int .u64, .int .u64, .int .u64, .int .u64, .int .i64]
theorem add_plain6 (b o i j : Nat) : (⟨b, o, none⟩ : Addr).add (i * 6 + j) = ⟨b, o + i * 6 + j, none⟩ := by rw [addr_add]; congr 1; omega
theorem cell_spot {W : World} {a : Addr} {v : Value} (h : W.cell? a = some v) : a.spot = none := by
  unfold World.cell? at h
  cases hs : a.spot with
  | none => rfl
  | some x =>
    rw [hs] at h
    split at h <;> simp at h
set_option maxRecDepth 10000 in
/-- What one element of a slice of calls is. -/
theorem act_at {W : World} {a : Option Addr} {len cap : Nat} (h : Fit1 W (.slice actSh) (.slice a len cap)) {i : Nat} (hi : i < len) :
    ∃ (b o : Nat) (k e1 e2 e3 h of : Int), a = some ⟨b, o, none⟩ ∧ b < W.heap.size ∧ (0 ≤ h ∧ h ≤ 18446744073709551615) ∧ of ≤ 9223372036854775807 ∧
      W.cell? ⟨b, o + i * 6, none⟩ = some (.int .i64 k) ∧ W.cell? ⟨b, o + i * 6 + 1, none⟩ = some (.int .u64 e1) ∧ W.cell? ⟨b, o + i * 6 + 2, none⟩ = some (.int .u64 e2) ∧ W.cell? ⟨b, o + i * 6 + 3, none⟩ = some (.int .u64 e3) ∧ W.cell? ⟨b, o + i * 6 + 4, none⟩ = some (.int .u64 h) ∧ W.cell? ⟨b, o + i * 6 + 5, none⟩ = some (.int .i64 of) := by
  unfold Fit1 at h
  rcases h with h | ⟨a', len', cap', h1, -, -, h4⟩
  · simp only [Value.slice.injEq] at h
    omega
  · simp only [Value.slice.injEq] at h1
    obtain ⟨e1, e2, e3⟩ := h1
    subst e1
    rw [← e2] at h4
    clear e2 e3
    obtain ⟨cs, hc, hf⟩ := h4 i hi
    have hl := hf.length
    obtain ⟨c0, c1, c2, c3, c4, c5, rfl⟩ := list6 hl
    simp only [actSh, Fits, Fit1, and_true] at hf
    obtain ⟨⟨k, rfl, hk⟩, ⟨e1, rfl, hn⟩, ⟨e2, rfl, ho⟩, ⟨e3, rfl, hv⟩, ⟨h, rfl, hh⟩, ⟨of, rfl, hof⟩⟩ := hf
    have q0 := hc 0 (by simp [actSh])
    have q1 := hc 1 (by simp [actSh])
    have q2 := hc 2 (by simp [actSh])
    have q3 := hc 3 (by simp [actSh])
    have q4 := hc 4 (by simp [actSh])
    have q5 := hc 5 (by simp [actSh])
    obtain ⟨bb, oo, sp⟩ := a'
    have hsp : sp = none := by
      obtain ⟨cs0, hc0, hf0⟩ := h4 0 (by omega)
      have hl0 := hf0.length
      have z := hc0 0 (by show 0 < 6; omega)
      rw [List.getElem?_eq_getElem (by rw [hl0]; show 0 < 6; omega)] at z
      have z2 : (⟨bb, oo, sp⟩ : Addr).add (0 * actSh.length + 0) = ⟨bb, oo, sp⟩ := rfl
      rw [z2] at z
      exact cell_spot z
    subst hsp
    have e : ∀ j, (⟨bb, oo, none⟩ : Addr).add (i * actSh.length + j) = ⟨bb, oo + i * 6 + j, none⟩ := fun j => add_plain6 bb oo i j
    rw [e] at q0 q1 q2 q3 q4 q5
    have hlt := World.block_lt_of_cell? W _ q0
    exact ⟨bb, oo, k, e1, e2, e3, h, of, rfl, hlt, bounds_u64 hh, (bounds_i64 hof).2, q0, q1, q2, q3, q4, q5⟩
end Go.Proofs.YtelnembjcgkiaaaDoor
