/- Chains in memory, at keys of two numbers; what only reads. -/
import Derived.Test.YtelnembjcgkiaaaProg
import Derived.Test.YtelnembjcgkiaaaChA
import Derived.Test.YtelnembjcgkiaaaGrowB
import Derived.Test.YtelnembjcgkiaaaMapQ
import Derived.Test.YtelnembjcgkiaaaFree
import Derived.Deep.Cut
namespace Go.Proofs.Ytelnembjcgkiaaa
open Go.RowKit
set_option linter.unusedVariables false
set_option linter.unusedSimpArgs false

theorem wp_name {P : Program} {c : Code} {Q : Exit → Act → World → Prop} {a : Act} {W : World} {Pr : World → Prop} (h : Pr W) (k : ∀ W', Pr W' → c.wp P Q a W') : c.wp P Q a W := k W h
def ek (p : Int × Int) : Value := .agg #[.int .i64 p.1, .int .i64 p.2]
theorem ek_eq (a b : Int × Int) (w : World) : (Op.equal 28 (ek a) (ek b)).run Try.prog w = .ok (decide (a = b)) w := by
  obtain ⟨i, hi, hz⟩ := Option.map_eq_some_iff.1 (show (Try.prog.info? 3).map (·.size) = some 1 by kernel_rfl)
  have q := run_equalIn_array_int (P := Try.prog) w 9998 28 3 2 .i64 .i64 i Try.underlying28 Try.underlying3 hi hz [a.1, a.2] [b.1, b.2] rfl rfl
  have e : (Op.equal 28 (ek a) (ek b)).run Try.prog w = .ok ([a.1, a.2] == [b.1, b.2]) w := q
  rw [e]
  congr 1
  obtain ⟨a1, a2⟩ := a
  obtain ⟨b1, b2⟩ := b
  by_cases h : a1 = b1 ∧ a2 = b2
  · obtain ⟨rfl, rfl⟩ := h; simp
  · have h2 : ¬ ((a1, a2) = (b1, b2)) := by simpa using h
    rw [decide_eq_false h2]
    apply beq_f
    simpa using h
theorem keyEnc_ek : KeyEnc Try.prog 28 ek :=
  keyEnc_ask Try.underlying28 (fun a b => rfl) ek_eq (fun e k w => by kernel_rfl) (fun k => by simp [ek, Instr.sameBits])
def endV (e : Int × Int × Int) : Value := .agg #[.int .i64 e.1, .int .i64 e.2.1, .int .i64 e.2.2]
def lkC (x : Lk (Int × Int)) : List Value := [.int .i64 x.key.1, .int .i64 x.key.2, .bool x.inn, .int .i64 x.ahead, .int .i64 x.behind]
theorem lkC_len (x : Lk (Int × Int)) : (lkC x).length = 5 := rfl
def lkR (lk : Nat → Lk (Int × Int)) (n : Nat) : List Value := grpL (fun i => lkC (lk i)) n
structure ChIn (w : World) (b bm bl n cp : Nat) (L : List ((Int × Int) × Nat)) (lk : Nat → Lk (Int × Int)) (M : List (Ent (Int × Int))) (c : Nat) : Prop where
  row : RowAt w b #[.map (some bm), .slice (some ⟨bl, 0, none⟩) n cp] 61
  m : MapAt w bm ek M c
  ok : MapOk M c
  lks : RowAt w bl (lkR lk cp).toArray 63
  cple : n ≤ cp
  rep : Rep (0, 0) n L lk (fun k => headV (ofK L k))
  v : ∀ k, valL k M = (headV (ofK L k)).map endV
  ne1 : b ≠ bm
  ne2 : b ≠ bl
  ne3 : bm ≠ bl
def ChAt (w : World) (b bm bl n : Nat) (L : List ((Int × Int) × Nat)) (lk : Nat → Lk (Int × Int)) : Prop := ∃ M c cp, ChIn w b bm bl n cp L lk M c
def S2 (bm bl k : Nat) : Prop := k = bm ∨ k = bl
section
variable {w w' : World} {b bm bl n cp : Nat} {L : List ((Int × Int) × Nat)} {lk : Nat → Lk (Int × Int)} {M : List (Ent (Int × Int))} {c : Nat}
theorem ChIn.ext (h : ChIn w b bm bl n cp L lk M c) (hb : Below w.heap.size w w') : ChIn w' b bm bl n cp L lk M c := { h with row := RowAt.ext h.row hb, m := h.m.ext hb, lks := RowAt.ext h.lks hb }
theorem ChAt.ext (h : ChAt w b bm bl n L lk) (hb : Below w.heap.size w w') : ChAt w' b bm bl n L lk := by
  obtain ⟨M, c, cp, q⟩ := h
  exact ⟨M, c, cp, q.ext hb⟩
theorem ChAt.only {S : Nat → Prop} (h : ChAt w b bm bl n L lk) (hb : Only S w w') (h0 : ¬ S b) (h1 : ¬ S bm) (h2 : ¬ S bl) : ChAt w' b bm bl n L lk := by
  obtain ⟨M, c, cp, q⟩ := h
  exact ⟨M, c, cp, { q with row := q.row.only hb h0, m := q.m.only hb h1, lks := q.lks.only hb h2 }⟩
theorem lk_cell0 (h : RowAt w bl (lkR lk n).toArray 63) {i j : Nat} {v : Value} (hi : i < n) (hj : j < 5) (hv : (lkC (lk i))[j]? = some v) : w.cell? ⟨bl, i * 5 + j, none⟩ = some v := by
  refine h.cell ?_
  rw [List.getElem?_toArray]
  exact (grpL_get (f := fun i => lkC (lk i)) (s := 5) n (fun _ => rfl) hi hj).trans hv
theorem lk_cell (q : ChIn w b bm bl n cp L lk M c) {i j : Nat} {v : Value} (hi : i < n) (hj : j < 5) (hv : (lkC (lk i))[j]? = some v) : w.cell? ⟨bl, i * 5 + j, none⟩ = some v := lk_cell0 q.lks (Nat.lt_of_lt_of_le hi q.cple) hj hv
end
def inB (n : Nat) (lk : Nat → Lk (Int × Int)) (i : Int) : Bool := if 0 ≤ i ∧ i < n then (lk i.toNat).inn else false
set_option maxHeartbeats 8000000 in
set_option maxRecDepth 100000 in
theorem is_nil (i : Int) (w : World) :
    Calls Try.prog 35 #[.pointer none, .int .i64 i] w fun e w' => e = .returned (.bool false) ∧ w = w' := by
  go_enter Try.func35, Try.ntmps35
  go_wp2_with fail
  go_ret
  exact ⟨rfl, rfl⟩
set_option maxHeartbeats 8000000 in
set_option maxRecDepth 100000 in
theorem is_any (b bm bl n : Nat) (L : List ((Int × Int) × Nat)) (lk : Nat → Lk (Int × Int)) (w : World) (hA : ChAt w b bm bl n L lk) (hn : n ≤ 4096) (i : Int) :
    Calls Try.prog 35 #[.pointer (some ⟨b, 0, none⟩), .int .i64 i] w fun e w' => e = .returned (.bool (inB n lk i)) ∧ w = w' := by
  obtain ⟨M, c, cp, q⟩ := hA
  have c1 : w.cell? ⟨b, 1, none⟩ = some (.slice (some ⟨bl, 0, none⟩) n cp) := q.row.cell (i := 1) rfl
  by_cases h0 : 0 ≤ i
  · have d0 : decide (0 ≤ i) = true := dec_t h0
    obtain ⟨j, rfl⟩ := Int.eq_ofNat_of_zero_le h0
    by_cases h1 : j < n
    · have d1 : decide ((j : Int) < (n : Int)) = true := dec_t (by omega)
      have j1 : (j : Int) < (n : Int) := by omega
      have e : inB n lk (j : Int) = (lk j).inn := by unfold inB; rw [if_pos ⟨h0, by omega⟩, Int.toNat_natCast]
      have c2 : w.cell? ⟨bl, j * 5 + 2, none⟩ = some (.bool (lk j).inn) := lk_cell q h1 (by decide) rfl
      rw [e]
      clear q e
      go_enter Try.func35, Try.ntmps35
      go_wp2_with fail
      go_ret
      exact ⟨rfl, rfl⟩
    · have d1 : decide ((j : Int) < (n : Int)) = false := dec_f (by omega)
      have e : inB n lk (j : Int) = false := by unfold inB; rw [if_neg (by omega)]
      rw [e]
      clear q e
      go_enter Try.func35, Try.ntmps35
      go_wp2_with fail
      go_ret
      exact ⟨rfl, rfl⟩
  · have d0 : decide (0 ≤ i) = false := dec_f h0
    have e : inB n lk i = false := by unfold inB; rw [if_neg (by omega)]
    rw [e]
    clear q e
    go_enter Try.func35, Try.ntmps35
    go_wp2_with fail
    go_ret
    exact ⟨rfl, rfl⟩
set_option maxHeartbeats 8000000 in
set_option maxRecDepth 100000 in
theorem next_nil (i : Int) (w : World) :
    Calls Try.prog 11 #[.pointer none, .int .i64 i] w fun e w' => e = .returned (.int .i64 (-1)) ∧ w = w' := by
  go_enter Try.func11, Try.ntmps11
  go_wp2_with (go_at_call 35; refine (is_nil i _).mono ?_; rintro e w1 ⟨rfl, rfl⟩)
  go_ret
  exact ⟨rfl, rfl⟩
def nextI (n : Nat) (lk : Nat → Lk (Int × Int)) (i : Int) : Int := if inB n lk i = true then (lk i.toNat).behind else -1
theorem inB_range {n : Nat} {lk : Nat → Lk (Int × Int)} {i : Int} (h : inB n lk i = true) : 0 ≤ i ∧ i < n := by
  unfold inB at h
  split at h
  · assumption
  · cases h
set_option maxHeartbeats 8000000 in
set_option maxRecDepth 100000 in
theorem next_any (b bm bl n : Nat) (L : List ((Int × Int) × Nat)) (lk : Nat → Lk (Int × Int)) (w : World) (hA : ChAt w b bm bl n L lk) (hn : n ≤ 4096) (i : Int) :
    Calls Try.prog 11 #[.pointer (some ⟨b, 0, none⟩), .int .i64 i] w fun e w' => e = .returned (.int .i64 (nextI n lk i)) ∧ w = w' := by
  have hi := is_any b bm bl n L lk w hA hn i
  obtain ⟨M, c, cp, q⟩ := hA
  have c1 : w.cell? ⟨b, 1, none⟩ = some (.slice (some ⟨bl, 0, none⟩) n cp) := q.row.cell (i := 1) rfl
  cases hb : inB n lk i with
  | true =>
    obtain ⟨h0, h1⟩ := inB_range hb
    obtain ⟨j, rfl⟩ := Int.eq_ofNat_of_zero_le h0
    have hjn : j < n := by omega
    have c2 : w.cell? ⟨bl, j * 5 + 4, none⟩ = some (.int .i64 (lk j).behind) := lk_cell q hjn (by decide) rfl
    have e : nextI n lk (j : Int) = (lk j).behind := by unfold nextI; rw [if_pos hb, Int.toNat_natCast]
    rw [e]
    rw [hb] at hi
    have HI := Lib.hid hi
    clear q e hi hb
    go_enter Try.func11, Try.ntmps11
    go_wp2_with (go_at_call 35; refine HI.out.mono ?_; rintro e w1 ⟨rfl, rfl⟩)
    go_ret
    exact ⟨rfl, rfl⟩
  | false =>
    have e : nextI n lk i = -1 := by unfold nextI; rw [hb]; rfl
    rw [e]
    rw [hb] at hi
    have HI := Lib.hid hi
    clear q e hi hb
    go_enter Try.func11, Try.ntmps11
    go_wp2_with (go_at_call 35; refine HI.out.mono ?_; rintro e w1 ⟨rfl, rfl⟩)
    go_ret
    exact ⟨rfl, rfl⟩
end Go.Proofs.Ytelnembjcgkiaaa
