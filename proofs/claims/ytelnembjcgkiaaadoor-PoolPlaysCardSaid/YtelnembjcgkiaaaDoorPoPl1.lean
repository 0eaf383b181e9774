/- Whatever a pool is asked: PoolPlays. -/
import Derived.Test.YtelnembjcgkiaaaDoorPoPb
import Derived.Deep.DeepCutAuto
import Derived.Deep.Cut
namespace Go.Proofs.YtelnembjcgkiaaaDoor
open Go.RowKit
set_option linter.unusedVariables false
set_option linter.unusedSimpArgs false

theorem step_lt80 {j : Nat} (h : j < 80) : 80 - (intOf (.int .i64 ((j : Int) + 1))).toNat < 80 - (intOf (.int .i64 (j : Int))).toNat := by
  show 80 - ((j : Int) + 1).toNat < 80 - ((j : Int)).toNat
  omega
theorem old_small {p : Po} {j : Nat} (h : ∀ y, p.old y ≤ j) (hj : j < 80) : ∀ y, p.old y + 1 < 1000000000 := fun y => by have := h y; omega
theorem idx_facts {i N : Nat} (h : i < N) : decide ((i : Int) < (N : Int)) = true ∧ (i : Int) < (N : Int) ∧ (0 : Int) ≤ (i : Int) := ⟨dec_t (by omega), by omega, by omega⟩
theorem neq_E (a b c : Int) (w : World) : (binOp .neq 53 (.agg #[.int .u64 a, .int .u64 b, .int .u64 c]) (.agg #[.int .u64 a, .int .u64 b, .int .u64 c])).run Tryd.prog w = .ok (.bool false) w := by
  go_simp
theorem drop_old {p : Po} {j : Nat} (h : ∀ y, p.old y ≤ j) (X : Nat) : ∀ y, (p.drop X).old y ≤ j + 1 := by
  intro y
  have := h y
  unfold Po.drop
  dsimp only
  split <;> omega
theorem PSt.init {W w1 w2 : World} {b be bo bt R : Nat} {u : Value} (R1 : 1 ≤ R) (hR4 : R ≤ 4096) (hT : Tab W) (hA : PoAt w1 b be bo bt (Po.new R)) (hg : W.heap.size ≤ b ∧ W.heap.size ≤ be ∧ W.heap.size ≤ bo ∧ W.heap.size ≤ bt) (hB : Below W.heap.size W w1)
    (hu : Sl w2 u (List.replicate R zpt).length (fl5 (List.replicate R zpt)) (fun g => w1.heap.size ≤ g)) (hb : Below w1.heap.size w1 w2) : PSt W.heap.size (w2.alloc (.cells #[.int .u64 0] 23 )) b be bo bt (Po.new R) u [0] (.slice (some ⟨w2.heap.size, 0, none⟩) 1 1) R 0 := by
  have hl := hA.lts
  have hs := hb.size
  have hs1 := hB.size
  have hb2 : Below w2.heap.size w2 (w2.alloc (.cells #[.int .u64 0] 23 )) := below_new (Below.refl _ _) _
  have hbw : Below W.heap.size W w2 := below_then hB hb
  refine { pat := (hA.ext hb).ext hb2, ok := new_ok R1 hR4, room := rfl, old := fun _ => Nat.le_refl _, doc := ?_, told := own_one w2 0 (by omega), rng := by intro t ht; simp at ht; subst ht; omega, len1 := by simp, len2 := by simp, ap := ?_, bs := ⟨hg.2.1, hg.2.2.1, hg.2.2.2⟩, tab := (hT.ext hbw).ext hb2, tb := block_lt_tab hT }
  · rw [pts_new]
    refine (hu.here.ext hb2).mono fun g hg' => ⟨?_, ?_⟩
    · have := hg'.1
      rintro (q | q | q) <;> omega
    · intro e
      have e2 : w2.heap.size = g := by injection e
      have := hg'.2
      omega
  · intro g hg'
    have e2 : w2.heap.size = g := by injection hg'
    exact ⟨by omega, by rintro (q | q | q) <;> omega⟩
theorem PSt.cleared {B : Nat} {w w1 w2 : World} {b be bo bt : Nat} {p q : Po} {u u1 : Value} {T S : List Int} {ct : Value} {R j : Nat} (h : PSt B w b be bo bt p u T ct R j) (hb : Below w.heap.size w w1)
    (hu : Sl w1 u1 (pts q).length (fl5 (pts q)) (fun g => (¬ S3 be bo bt g ∧ ct.ownBlock ≠ some g) ∨ w.heap.size ≤ g)) (hA : PoAt w2 b be bo bt q) (ho : Only (S3 be bo bt) w1 w2) (hG : Gone p q S) : PSt B w2 b be bo bt q u1 T ct R (j + 1) := by
  have hl := h.pat.lts
  have hs : ∀ g, (¬ S3 be bo bt g ∧ ct.ownBlock ≠ some g) ∨ w.heap.size ≤ g → ¬ S3 be bo bt g ∧ ct.ownBlock ≠ some g := fun g hg => by
    rcases hg with hg | hg
    · exact hg
    · exact ⟨by rintro (e | e | e) <;> omega, fun e => by have := (ownsRow_base h.told g e).2; omega⟩
  exact { pat := hA, ok := hG.ok, room := hG.room.trans h.room, old := fun y => by rw [hG.old]; have := h.old y; split <;> omega, doc := (hu.only ho fun g hg => (hs g hg).1).mono hs, told := ownsRow_only (ownsRow_only h.told (only_of hb (fun _ => False)) (fun _ _ => id)) ho (fun g hg => (h.ap g hg).2), rng := h.rng, len1 := h.len1, len2 := Nat.le_succ_of_le h.len2, ap := h.ap, bs := h.bs, tab := Tab.only (h.tab.ext hb) ho h.tabS, tb := h.tb }
theorem end_cases (p : Po) (ok : p.ok) (z : Int) : ((decide (0 ≤ z) = false ∨ (decide (0 ≤ z) = true ∧ decide (z < (p.room : Int)) = false)) ∧ (p.ent z).isSome = false) ∨ ∃ X : Nat, z = (X : Int) ∧ X < p.room ∧ ((p.tk X = true ∧ (p.ent (X : Int)).isSome = true) ∨ (p.ent (X : Int)).isSome = false) := by
  by_cases h0 : 0 ≤ z
  · by_cases h1 : z < (p.room : Int)
    · refine .inr ⟨z.toNat, by omega, by omega, ?_⟩
      cases ht : p.tk z.toNat with
      | true => exact .inl ⟨rfl, ht⟩
      | false => exact .inr ht
    · refine .inl ⟨.inr ⟨dec_t h0, dec_f h1⟩, ?_⟩
      cases hq : (p.ent z).isSome with
      | false => rfl
      | true => have := ok.inr z hq; omega
  · refine .inl ⟨.inl (dec_f h0), ?_⟩
    cases hq : (p.ent z).isSome with
    | false => rfl
    | true => have := ok.inr z hq; omega
set_option maxHeartbeats 64000000 in
set_option maxRecDepth 100000 in
theorem PoolPlays_bad (rm : Int) (a : Option Addr) (len cap : Nat) (at_ : Int) (W : World) (hT : Tab W) (hbad : rm < 1 ∨ 4096 < rm) (hf : Fit1 W (.slice actSh) (.slice a len cap)) :
    Calls Tryd.prog 6 #[.int .i64 rm, .slice a len cap, .int .i64 at_] W fun e w' => e = .returned (.bool true) ∧ Below W.heap.size W w' := by
  have HFIT := Lib.hid (fun i (hi : i < len) => act_at hf hi)
  have HT := Lib.hid hT
  clear hf hT
  have fin : decide (40 < rm) = false ∨ (decide (40 < rm) = true ∧ decide (rm ≤ 4096) = false) := by
    rcases hbad with h | h
    · exact .inl (dec_f (by omega))
    · exact .inr ⟨dec_t (by omega), dec_f (by omega)⟩
  have HBAD := Lib.hid hbad
  have g2 : decide (rm < 1) = true ∨ (decide (rm < 1) = false ∧ decide (4096 < rm) = true) := by
    rcases hbad with h | h
    · exact .inl (dec_t h)
    · exact .inr ⟨dec_f (by omega), dec_t h⟩
  clear hbad
  rcases fin with d1 | ⟨d1, d2⟩ <;> rcases g2 with g1 | ⟨g1, g3⟩
  all_goals
    go_enter Tryd.func6, Tryd.ntmps6
    go_wp2_with (first | (go_at_call 8; refine (new_no rm _ HBAD.out).mono ?_; rintro e w1 ⟨rfl, hb1⟩; have HTT := Lib.hid (HT.out.ext hb1)) | (go_at_call 14; refine (known16 _ HTT.out).mono ?_; rintro e w2 ⟨rfl, hb2⟩))
    go_ret
    exact ⟨rfl, below_then hb1 hb2⟩
end Go.Proofs.YtelnembjcgkiaaaDoor
