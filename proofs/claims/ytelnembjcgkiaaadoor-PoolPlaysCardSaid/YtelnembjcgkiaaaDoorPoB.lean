/- The pool: what it is in memory; a handle's parts. -/
import Derived.Test.YtelnembjcgkiaaaDoorMapQ
import Derived.Test.YtelnembjcgkiaaaDoorPoA
import Derived.Test.YtelnembjcgkiaaaDoorFree
import Derived.Test.YtelnembjcgkiaaaDoorPart
import Derived.Laws.StructEq
import Derived.Laws.BitsAllLaws
import Derived.Deep.Cut
namespace Go.Proofs.YtelnembjcgkiaaaDoor
open Go.RowKit
set_option linter.unusedVariables false
set_option linter.unusedSimpArgs false

theorem wp_name {P : Program} {c : Code} {Q : Exit → Act → World → Prop} {a : Act} {W : World} {Pr : World → Prop} (h : Pr W) (k : ∀ W', Pr W' → c.wp P Q a W') : c.wp P Q a W := k W h
/-! ### The key -/
def pl (a : Int) : Value := .agg #[.int .i64 a]
theorem pl_fields : Tryd.prog.fieldsOf 71 = #[{ name := "at", type := 3, offset := 0, embedded := false, tag := "", pkgPath := "minuterie/pool", byteOffset := 0 }] := by unfold Program.fieldsOf; rw [Tryd.underlying71]
theorem pl_eq (a b : Int) (w : World) : (Op.equal 71 (pl a) (pl b)).run Tryd.prog w = .ok (decide (a = b)) w := by
  unfold Op.equal pl
  rw [show Op.maxDepth = 9999 + 1 from rfl, run_equalIn_agg w 9999 71 _ _ (by rw [pl_fields]; exact Tryd.underlying71) Tryd.stoodInHeld71, pl_fields]
  have hp : ∀ (x : Int) w, (part 3 #[.int .i64 x] 0).run Tryd.prog w = .ok (.int .i64 x) w := fun x w => run_part_one w 3 .i64 Tryd.underlying3 _ 0 _ rfl
  simp [Op.eqFields, hp, Sem.run_bind, run_equalIn_int w 9998 3 .i64 .i64 a b Tryd.underlying3]
  by_cases h : a = b <;> simp [h]
theorem keyEnc_pl : KeyEnc Tryd.prog 71 pl :=
  keyEnc_ask Tryd.underlying71 (fun a b => rfl) pl_eq (fun e k w => by kernel_rfl) (fun k => by simp [pl, Instr.sameBits])
/-! ### The model -/
structure Po where
  room : Nat
  ent : Int → Option (Int × Int × Int)
  old : Int → Nat
def entV (e : Int × Int × Int) : Value := .agg #[.int .u64 e.1, .int .u64 e.2.1, .int .u64 e.2.2]
def nw (room : Nat) : Nat := (room + 63) / 64
def Po.tk (p : Po) (x : Nat) : Bool := (p.ent x).isSome
def Po.cnt (p : Po) : Nat := cntB p.tk p.room
structure Po.ok (p : Po) : Prop where
  r1 : 1 ≤ p.room
  r2 : p.room ≤ 4096
  inr : ∀ x, (p.ent x).isSome = true → 0 ≤ x ∧ x < p.room
  old : ∀ x, p.old x < 1000000000
/-- The pool's parts in memory. -/
structure PoIn (w : World) (b be bo bt : Nat) (p : Po) (M1 : List (Ent Int)) (c1 : Nat) (M2 : List (Ent Int)) (c2 : Nat) (ws : List Int) : Prop where
  row : RowAt w b #[.map (some be), .map (some bo), .slice (some ⟨bt, 0, none⟩) (nw p.room) ws.length, .int .i64 p.room] 69
  m1 : MapAt w be pl M1 c1
  m2 : MapAt w bo pl M2 c2
  row3 : RowAt w bt (ints .u64 ws) 23
  ok1 : MapOk M1 c1
  ok2 : MapOk M2 c2
  v1 : ∀ x, valL x M1 = (p.ent x).map entV
  v2 : ∀ x, (valL x M2).getD (.int .u64 0) = .int .u64 (p.old x)
  wl : nw p.room ≤ ws.length
  wr : ∀ i, 0 ≤ ws.getD i 0 ∧ ws.getD i 0 ≤ 18446744073709551615
  wb : ∀ i s, i < nw p.room → s < 64 → bitI (ws.getD i 0) s = p.tk (i * 64 + s)
  len : M1.length = p.cnt
  ne1 : b ≠ be
  ne2 : b ≠ bo
  ne3 : b ≠ bt
  ne4 : be ≠ bo
  ne5 : be ≠ bt
  ne6 : bo ≠ bt
def PoAt (w : World) (b be bo bt : Nat) (p : Po) : Prop := ∃ M1 c1 M2 c2 ws, PoIn w b be bo bt p M1 c1 M2 c2 ws
def S3 (be bo bt k : Nat) : Prop := k = be ∨ k = bo ∨ k = bt
theorem PoIn.ext {w w' : World} {b be bo bt : Nat} {p : Po} {M1 : List (Ent Int)} {c1 : Nat} {M2 : List (Ent Int)} {c2 : Nat} {ws : List Int} (h : PoIn w b be bo bt p M1 c1 M2 c2 ws) (hb : Below w.heap.size w w') : PoIn w' b be bo bt p M1 c1 M2 c2 ws :=
  { h with row := RowAt.ext h.row hb, m1 := h.m1.ext hb, m2 := h.m2.ext hb, row3 := RowAt.ext h.row3 hb }
theorem PoAt.ext {w w' : World} {b be bo bt : Nat} {p : Po} (h : PoAt w b be bo bt p) (hb : Below w.heap.size w w') : PoAt w' b be bo bt p := by
  obtain ⟨M1, c1, M2, c2, ws, q⟩ := h
  exact ⟨M1, c1, M2, c2, ws, q.ext hb⟩
theorem PoAt.only {w w' : World} {b be bo bt : Nat} {p : Po} {S : Nat → Prop} (h : PoAt w b be bo bt p) (hb : Only S w w') (h0 : ¬ S b) (h1 : ¬ S be) (h2 : ¬ S bo) (h3 : ¬ S bt) : PoAt w' b be bo bt p := by
  obtain ⟨M1, c1, M2, c2, ws, q⟩ := h
  exact ⟨M1, c1, M2, c2, ws, { q with row := q.row.only hb h0, m1 := q.m1.only hb h1, m2 := q.m2.only hb h2, row3 := q.row3.only hb h3 }⟩
/-! ### Handles -/
def hv (p : Po) (x : Int) : Int := ((p.old x : Int) + 1) * 4096 + x
theorem low_mask (h : Int) (h0 : 0 ≤ h) (h1 : h ≤ 18446744073709551615) : bits .and .u64 h (maskI 12) = h % 4096 :=
  bits_mask .u64 64 (by decide) (fun n h0 h1 => by rw [IntKind.wrap_u64]; omega) 12 (by decide) h h0 (by omega)
theorem join_eq (o x : Int) (o0 : 0 ≤ o) (o1 : o < 1000000000) (x0 : 0 ≤ x) (x1 : x < 4096) : bits .or .u64 (IntKind.u64.wrap (IntKind.u64.wrap (o + 1) * 2 ^ 12)) (IntKind.u64.wrap x) = (o + 1) * 4096 + x := by
  have e1 : IntKind.u64.wrap (o + 1) = o + 1 := by rw [IntKind.wrap_u64]; omega
  have e2 : IntKind.u64.wrap ((o + 1) * 2 ^ 12) = (o + 1) * 4096 := by rw [IntKind.wrap_u64]; omega
  have e3 : IntKind.u64.wrap x = x := by rw [IntKind.wrap_u64]; omega
  rw [e1, e2, e3]
  exact u64_or_add 12 _ _ (by omega) (by omega) (by omega) x0 (by omega) (by omega)
set_option maxHeartbeats 8000000 in
set_option maxRecDepth 100000 in
theorem split_any (h : Int) (w : World) (h0 : 0 ≤ h) (h1 : h ≤ 18446744073709551615) :
    Calls Tryd.prog 15 #[.int .u64 h] w fun e w' => e = .returned (.tuple #[.int .u64 (h / 4096), .int .i64 (h % 4096)]) ∧ Below w.heap.size w w' := by
  have e1 := low_mask h h0 h1
  have e2 : h / 2 ^ 12 = h / 4096 := rfl
  have e3 : 0 ≤ h % 4096 ∧ h % 4096 < 4096 := by omega
  obtain ⟨u, hu⟩ : ∃ u, h % 4096 = u := ⟨_, rfl⟩
  rw [hu] at e1 e3 ⊢
  obtain ⟨u0, u1⟩ := e3
  go_enter Tryd.func15, Tryd.ntmps15
  go_wp2_with (go_at_call 34; refine (mask_any 12 _).mono ?_; rintro e wr ⟨rfl, hbr⟩)
  go_ret2
  exact ⟨rfl, hbr⟩
end Go.Proofs.YtelnembjcgkiaaaDoor
