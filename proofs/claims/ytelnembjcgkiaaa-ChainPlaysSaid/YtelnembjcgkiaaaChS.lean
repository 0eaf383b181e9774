/- Chains at strings, as the chapter's example uses them. -/
import Derived.Test.YtelnembjcgkiaaaChJ
namespace Go.Proofs.Ytelnembjcgkiaaa
open Go.RowKit Go.Shelf
set_option linter.unusedVariables false
set_option linter.unusedSimpArgs false
attribute [local go_sem] Oper.semAt_some
namespace Str
def es : Bool → Value
  | false => .string ⟨#[97]⟩
  | true => .string ⟨#[98]⟩
theorem es_same (a b : Bool) : Instr.sameNow .string (es a) (es b) = some (a == b) := by cases a <;> cases b <;> decide +kernel
theorem keyEnc_s : KeyEnc Try.prog 9 es where
  check e k w := by
    have hx : ∃ x, es k = .string x := by cases k <;> exact ⟨_, rfl⟩
    obtain ⟨x, hx⟩ := hx
    rw [hx]
    unfold Instr.checkKey
    simp [run_underlying Try.underlying9 ]
  find k L w := by
    have h : ∀ (L : List (Ent Bool)) (i : Nat), Instr.findNow .string (es k) (L.map (Ent.obj es)) i = some (findL k L i) := by
      intro L
      induction L with
      | nil => intro i; rfl
      | cons p l ih =>
        intro i
        simp only [List.map_cons, Instr.findNow, Ent.obj, es_same, findL]
        by_cases q : k = p.1
        · simp [q]
        · have : (k == p.1) = false := by simpa using q
          simp only [this, if_neg q]
          exact ih (i + 1)
    unfold Instr.findKey
    simp [run_underlying Try.underlying9 , h L 0]
  same k := by cases k <;> decide +kernel
structure SAt (w : World) (b bm bl : Nat) (M : List (Ent Bool)) (c : Nat) (cs : List Value) : Prop where
  row : RowAt w b #[.map (some bm), .slice (some ⟨bl, 0, none⟩) 5 5] 92
  m : MapAt w bm es M c
  ok : MapOk M c
  lks : RowAt w bl cs.toArray 94
  len : cs.length = 20
  ne1 : b ≠ bm
  ne2 : b ≠ bl
  ne3 : bm ≠ bl
section
variable {w w' : World} {b bm bl : Nat} {M : List (Ent Bool)} {c : Nat} {cs : List Value}
theorem SAt.ext (h : SAt w b bm bl M c cs) (hb : Below w.heap.size w w') : SAt w' b bm bl M c cs := { h with row := RowAt.ext h.row hb, m := h.m.ext hb, lks := RowAt.ext h.lks hb }
theorem SAt.cell (h : SAt w b bm bl M c cs) {i : Nat} {v : Value} (hv : cs[i]? = some v) : w.cell? ⟨bl, i, none⟩ = some v := h.lks.cell (by rw [List.getElem?_toArray]; exact hv)
end
def lkS (k : Value) (inn : Bool) (a b : Int) : List Value := [k, .bool inn, .int .i64 a, .int .i64 b]
def putL (cs : List Value) (j : Nat) (x : List Value) : List Value := cs.take (j * 4) ++ x ++ cs.drop (j * 4 + 4)
theorem putL_len {cs : List Value} {j : Nat} (h : cs.length = 20) (hj : j < 5) {x : List Value} (hx : x.length = 4) : (putL cs j x).length = 20 := by
  unfold putL
  simp only [List.length_append, List.length_take, List.length_drop]
  omega
theorem info_s : (Try.prog.info? 94 ).map (·.size) = some 4 := by kernel_rfl
theorem lkS_one (t : Bool) (inn : Bool) (a b : Int) : ∀ v ∈ lkS (es t) inn a b, v.oneCell' = true := by
  intro v hv
  simp only [lkS, List.mem_cons, List.not_mem_nil, or_false] at hv
  rcases hv with rfl | rfl | rfl | rfl
  · cases t <;> rfl
  all_goals rfl
set_option maxHeartbeats 8000000 in
set_option maxRecDepth 100000 in
theorem push_new (b bm bl : Nat) (M : List (Ent Bool)) (c : Nat) (cs : List Value) (w : World) (hS : SAt w b bm bl M c cs) (t : Bool) (j : Nat) (hj : j < 5) (h1 : cs[j * 4 + 1]? = some (.bool false)) (hv : valL t M = none) :
    Calls Try.prog 37 #[.pointer (some ⟨b, 0, none⟩), es t, .int .i64 j] w fun e w' => e = .returned (.bool true) ∧ SAt w' b bm bl (updL t (endV ((j : Int), (j : Int), 1)) c M) (updC t c M) (putL cs j (lkS (es t) true (-1) (-1))) ∧ Only (S2 bm bl) w w' := by
  have c0 : w.cell? ⟨b, 0, none⟩ = some (.map (some bm)) := hS.row.cell (i := 0) rfl
  have c1 : w.cell? ⟨b, 1, none⟩ = some (.slice (some ⟨bl, 0, none⟩) 5 5) := hS.row.cell (i := 1) rfl
  have c2 := hS.cell h1
  have hbl : b < w.heap.size ∧ bm < w.heap.size ∧ bl < w.heap.size := ⟨hS.row.lt, hS.m.lt, hS.lks.lt⟩
  have d1 : decide ((j : Int) < 0) = false := dec_f (by omega)
  have d2 : decide ((5 : Int) ≤ (j : Int)) = false := dec_f (by omega)
  have hj5 : (j : Int) < 5 := by omega
  have r0 := run_lookup_at (P := Try.prog) keyEnc_s Try.underlying89 (z := .agg #[.int .i64 0, .int .i64 0, .int .i64 0]) (by kernel_rfl) hS.m t true
  simp only [if_true] at r0
  rw [hv] at r0
  obtain ⟨K, hK⟩ : ∃ K, es t = .string K := by cases t <;> exact ⟨_, rfl⟩
  rw [hK] at r0 ⊢
  have HK := Lib.hid hK
  clear hK
  dsimp only [Option.getD, Option.isSome] at r0
  have HS := Lib.hid hS
  have HV := Lib.hid hv
  have H1 := Lib.hid h1
  have HLT := Lib.hid hbl
  clear hS hv h1 hbl
  go_enter Try.func37, Try.ntmps37
  go_upto_region 4 with (first | simp only [r0] | fail)
  refine wp_name (Pr := fun W6 => SAt W6 b bm bl M c cs ∧ RowAt W6 w.heap.size #[.int .i64 0, .int .i64 0, .int .i64 0] 65 ∧ Below w.heap.size w W6) ⟨HS.out.ext (below_new (Below.refl _ _) _), RowAt.new w _ _, below_new (Below.refl _ _) _⟩ ?_
  rintro W6 ⟨hS, hG, hB⟩
  have g0 := hG.cell (i := 0) rfl
  have g1 := hG.cell (i := 1) rfl
  have g2 := hG.cell (i := 2) rfl
  have gf0 := hG.frozen 0
  have gf1 := hG.frozen 1
  have gf2 := hG.frozen 2
  have HS := Lib.hid hS
  have HG := Lib.hid hG
  have HB := Lib.hid hB
  clear hS hG hB c0 c1 c2 r0
  go_upto_region 6 with fail
  clear g0 g1 g2 gf0 gf1 gf2
  have hne : b ≠ w.heap.size ∧ bm ≠ w.heap.size ∧ bl ≠ w.heap.size := by have := HLT.out; omega
  refine wp_name (Pr := fun W8 => SAt W8 b bm bl M c cs ∧ RowAt W8 w.heap.size #[.int .i64 j, .int .i64 (-1), .int .i64 0] 65 ∧ Below w.heap.size w W8) ⟨{ HS.out with row := RowAt.but HS.out.row ((((But.refl w.heap.size W6).set 0 _).set 1 _).set 2 _) hne.1, m := MapAt.but HS.out.m ((((But.refl w.heap.size W6).set 0 _).set 1 _).set 2 _) hne.2.1, lks := RowAt.but HS.out.lks ((((But.refl w.heap.size W6).set 0 _).set 1 _).set 2 _) hne.2.2 }, ((HG.out.set 0 _).set 1 _).set 2 _, below_set (below_set (below_set HB.out (Nat.le_refl _) _) (Nat.le_refl _) _) (Nat.le_refl _) _⟩ ?_
  clear HS HG HB
  rintro W8 ⟨hS, hG, hB⟩
  have HS := Lib.hid hS
  have HG := Lib.hid hG
  have HB := Lib.hid hB
  obtain ⟨hkR, _⟩ := Ext.cells hS.row
  obtain ⟨hkG, _⟩ := Ext.cells hG
  have s0 : ∀ y : Ext W8.heap.size W8, y.world.cell? ⟨b, 0, none⟩ = some (.map (some bm)) := fun y => hkR y 0
  have s1 : ∀ y : Ext W8.heap.size W8, y.world.cell? ⟨b, 1, none⟩ = some (.slice (some ⟨bl, 0, none⟩) 5 5) := fun y => hkR y 1
  have sg1 : ∀ y : Ext W8.heap.size W8, y.world.cell? ⟨w.heap.size, 1, none⟩ = some (.int .i64 (-1)) := fun y => hkG y 1
  clear hS hG hB hkR hkG
  refine wp_start (w := W8) ?_
  intro x0
  refine wp_region_ext_tail _ 10 (by kernel_rfl) (by kernel_rfl) (by kernel_rfl) ?_
  simp only [List.take_succ_cons, List.take_zero, List.drop_succ_cons, List.drop_zero]
  repeat (go_big_quiet_step (fail))
  refine wpQuiet_nil ?_
  rintro _ ⟨y, rfl⟩
  have HLK := Lib.hid (RowAt.ext HS.out.lks y.ok)
  have HLE := Lib.hid (show j * 4 + 4 ≤ cs.length by rw [HS.out.len]; omega)
  have hone : ∀ v ∈ lkS (.string K) true (-1) (-1), v.oneCell' = true := by rw [← HK.out]; exact lkS_one t _ _ _
  have HONE := Lib.hid hone
  clear hone
  refine wpList_store_part rfl 94 (.tmp 56) (.tmp 55) rfl bl (j * 4) (lkS (.string K) true (-1) (-1)) rfl rfl 94 cs HLK.out info_s HLE.out HONE.out ?_
  rw [show (cs.take (j * 4) ++ lkS (.string K) true (-1) (-1) ++ cs.drop (j * 4 + (lkS (.string K) true (-1) (-1)).length)) = putL cs j (lkS (.string K) true (-1) (-1)) from rfl]
  go_upto_region 7 with fail
  have hne : b ≠ bl ∧ bm ≠ bl ∧ w.heap.size ≠ bl := by have := HLT.out; exact ⟨HS.out.ne2, HS.out.ne3, by omega⟩
  refine wp_name (Pr := fun W9 => SAt W9 b bm bl M c (putL cs j (lkS (.string K) true (-1) (-1))) ∧ RowAt W9 w.heap.size #[.int .i64 j, .int .i64 (-1), .int .i64 0] 65 ∧ Only (S2 bm bl) w W9)
    ⟨{ HS.out with row := RowAt.but (RowAt.ext HS.out.row y.ok) ((But.refl bl _).setRow _) hne.1, m := (HS.out.m.ext y.ok).setRow _ hne.2.1, lks := HLK.out.setRow _, len := putL_len HS.out.len hj rfl }, RowAt.but (RowAt.ext HG.out y.ok) ((But.refl bl _).setRow _) hne.2.2, (only_of (below_then HB.out y.ok) _).setRow (Or.inr rfl) _⟩ ?_
  clear HS HG HB HLK HLE HONE hne s0 s1 sg1
  rintro W9 ⟨hS, hG, hO⟩
  have sg1' := hG.cell (i := 1) rfl
  have w1 : wrap64 (0 + 1) = 1 := by unfold wrap64; omega
  have HS := Lib.hid hS
  have HG := Lib.hid hG
  have HO := Lib.hid hO
  clear hS hG hO
  go_upto_region 9 with fail
  clear sg1'
  have hS := HS.out
  have hG := HG.out
  have hO := HO.out
  clear HS HG HO
  have HS := Lib.hid hS
  have HG := Lib.hid hG
  have HO := Lib.hid hO
  obtain ⟨hkR, _⟩ := Ext.cells hS.row
  obtain ⟨hkG, _⟩ := Ext.cells hG
  have s0 : ∀ y : Ext W9.heap.size W9, y.world.cell? ⟨b, 0, none⟩ = some (.map (some bm)) := fun y => hkR y 0
  have sg0 : ∀ y : Ext W9.heap.size W9, y.world.cell? ⟨w.heap.size, 0, none⟩ = some (.int .i64 ((j : Int))) := fun y => hkG y 0
  have sg2 : ∀ y : Ext W9.heap.size W9, y.world.cell? ⟨w.heap.size, 2, none⟩ = some (.int .i64 (0)) := fun y => hkG y 2
  clear hS hG hO hkR hkG
  refine wp_start (w := W9) ?_
  intro x9
  refine wp_region_ext_tail _ 12 (by kernel_rfl) (by kernel_rfl) (by kernel_rfl) ?_
  simp only [List.take_succ_cons, List.take_zero, List.drop_succ_cons, List.drop_zero]
  repeat (go_big_quiet_step (fail))
  refine wpQuiet_nil ?_
  rintro _ ⟨y9, rfl⟩
  have HS9 := Lib.hid (HS.out.ext y9.ok)
  have HMY := Lib.hid HS9.out.m
  have hkt : Try.prog.underlying 89 = some (.map 9 65 ) := Try.underlying89
  go_wp2_with (at_mapUpdate; refine wpList_update_at rfl (.tmp 72) (.tmp 73) (.tmp 80) rfl keyEnc_s Try.underlying89 HMY.out rfl t (by rw [HK.out]; rfl) (endV ((j : Int), (j : Int), 1)) rfl ?_)
  go_ret
  refine ⟨rfl, { HS9.out with row := HS9.out.row.setB _ HS9.out.ne1, m := HMY.out.set _ _, ok := HS9.out.ok.upd _ _, lks := HS9.out.lks.setB _ (Ne.symm HS9.out.ne3) }, (HO.out.ext y9.ok).setB (Or.inl rfl) _⟩
set_option maxHeartbeats 8000000 in
set_option maxRecDepth 100000 in
theorem push_more (b bm bl : Nat) (M : List (Ent Bool)) (c : Nat) (cs : List Value) (w : World) (hS : SAt w b bm bl M c cs) (t : Bool) (j : Nat) (hj : j < 5) (h1 : cs[j * 4 + 1]? = some (.bool false)) (E1 E3 : Int) (X : Nat) (hX : X < 5) (hE3 : 0 ≤ E3 ∧ E3 ≤ 5) (hv : valL t M = some (endV (E1, (X : Int), E3))) :
    Calls Try.prog 37 #[.pointer (some ⟨b, 0, none⟩), es t, .int .i64 j] w fun e w' => e = .returned (.bool true) ∧ SAt w' b bm bl (updL t (endV (E1, (j : Int), E3 + 1)) c M) (updC t c M) ((putL cs j (lkS (es t) true (X : Int) (-1))).set (X * 4 + 3) (.int .i64 j)) ∧ Only (S2 bm bl) w w' := by
  have c0 : w.cell? ⟨b, 0, none⟩ = some (.map (some bm)) := hS.row.cell (i := 0) rfl
  have c1 : w.cell? ⟨b, 1, none⟩ = some (.slice (some ⟨bl, 0, none⟩) 5 5) := hS.row.cell (i := 1) rfl
  have c2 := hS.cell h1
  have hbl : b < w.heap.size ∧ bm < w.heap.size ∧ bl < w.heap.size := ⟨hS.row.lt, hS.m.lt, hS.lks.lt⟩
  have d1 : decide ((j : Int) < 0) = false := dec_f (by omega)
  have d2 : decide ((5 : Int) ≤ (j : Int)) = false := dec_f (by omega)
  have hj5 : (j : Int) < 5 := by omega
  have r0 := run_lookup_at (P := Try.prog) keyEnc_s Try.underlying89 (z := .agg #[.int .i64 0, .int .i64 0, .int .i64 0]) (by kernel_rfl) hS.m t true
  simp only [if_true] at r0
  rw [hv] at r0
  obtain ⟨K, hK⟩ : ∃ K, es t = .string K := by cases t <;> exact ⟨_, rfl⟩
  rw [hK] at r0 ⊢
  have HK := Lib.hid hK
  clear hK
  unfold endV at r0
  dsimp only [Option.getD, Option.isSome] at r0
  have hX0 : ((X : Int) == -1) = false := by simp
  have hXlt : (X : Int) < 5 := by omega
  have w1 : wrap64 (E3 + 1) = E3 + 1 := by unfold wrap64; omega
  have HS := Lib.hid hS
  have HV := Lib.hid hv
  have H1 := Lib.hid h1
  have HLT := Lib.hid hbl
  clear hS hv h1 hbl
  go_enter Try.func37, Try.ntmps37
  go_upto_region 4 with (first | simp only [r0] | fail)
  refine wp_name (Pr := fun W6 => SAt W6 b bm bl M c cs ∧ RowAt W6 w.heap.size #[.int .i64 E1, .int .i64 (X : Int), .int .i64 E3] 65 ∧ Below w.heap.size w W6) ⟨HS.out.ext (below_new (Below.refl _ _) _), RowAt.new w _ _, below_new (Below.refl _ _) _⟩ ?_
  rintro W6 ⟨hS, hG, hB⟩
  have g0 := hG.cell (i := 0) rfl
  have g1 := hG.cell (i := 1) rfl
  have g2 := hG.cell (i := 2) rfl
  have gf0 := hG.frozen 0
  have gf1 := hG.frozen 1
  have gf2 := hG.frozen 2
  have HS := Lib.hid hS
  have HG := Lib.hid hG
  have HB := Lib.hid hB
  clear hS hG hB c0 c1 c2 r0
  go_upto_region 6 with fail
  clear g0 g1 g2 gf0 gf1 gf2
  have hS := HS.out
  have hG := HG.out
  have hB := HB.out
  clear HS HG HB
  have HS := Lib.hid hS
  have HG := Lib.hid hG
  have HB := Lib.hid hB
  obtain ⟨hkR, _⟩ := Ext.cells hS.row
  obtain ⟨hkG, _⟩ := Ext.cells hG
  have s0 : ∀ y : Ext W6.heap.size W6, y.world.cell? ⟨b, 0, none⟩ = some (.map (some bm)) := fun y => hkR y 0
  have s1 : ∀ y : Ext W6.heap.size W6, y.world.cell? ⟨b, 1, none⟩ = some (.slice (some ⟨bl, 0, none⟩) 5 5) := fun y => hkR y 1
  have sg1 : ∀ y : Ext W6.heap.size W6, y.world.cell? ⟨w.heap.size, 1, none⟩ = some (.int .i64 (X : Int)) := fun y => hkG y 1
  clear hS hG hB hkR hkG
  refine wp_start (w := W6) ?_
  intro x0
  refine wp_region_ext_tail _ 10 (by kernel_rfl) (by kernel_rfl) (by kernel_rfl) ?_
  simp only [List.take_succ_cons, List.take_zero, List.drop_succ_cons, List.drop_zero]
  repeat (go_big_quiet_step (fail))
  refine wpQuiet_nil ?_
  rintro _ ⟨y, rfl⟩
  have HLK := Lib.hid (RowAt.ext HS.out.lks y.ok)
  have HLE := Lib.hid (show j * 4 + 4 ≤ cs.length by rw [HS.out.len]; omega)
  have hone : ∀ v ∈ lkS (.string K) true (X : Int) (-1), v.oneCell' = true := by rw [← HK.out]; exact lkS_one t _ _ _
  have HONE := Lib.hid hone
  clear hone
  refine wpList_store_part rfl 94 (.tmp 56) (.tmp 55) rfl bl (j * 4) (lkS (.string K) true (X : Int) (-1)) rfl rfl 94 cs HLK.out info_s HLE.out HONE.out ?_
  rw [show (cs.take (j * 4) ++ lkS (.string K) true (X : Int) (-1) ++ cs.drop (j * 4 + (lkS (.string K) true (X : Int) (-1)).length)) = putL cs j (lkS (.string K) true (X : Int) (-1)) from rfl]
  go_upto_region 7 with fail
  have hne : b ≠ bl ∧ bm ≠ bl ∧ w.heap.size ≠ bl := by have := HLT.out; exact ⟨HS.out.ne2, HS.out.ne3, by omega⟩
  refine wp_name (Pr := fun W9 => SAt W9 b bm bl M c (putL cs j (lkS (.string K) true (X : Int) (-1))) ∧ RowAt W9 w.heap.size #[.int .i64 E1, .int .i64 (X : Int), .int .i64 E3] 65 ∧ Only (S2 bm bl) w W9)
    ⟨{ HS.out with row := RowAt.but (RowAt.ext HS.out.row y.ok) ((But.refl bl _).setRow _) hne.1, m := (HS.out.m.ext y.ok).setRow _ hne.2.1, lks := HLK.out.setRow _, len := putL_len HS.out.len hj rfl }, RowAt.but (RowAt.ext HG.out y.ok) ((But.refl bl _).setRow _) hne.2.2, (only_of (below_then HB.out y.ok) _).setRow (Or.inr rfl) _⟩ ?_
  clear HS HG HB HLK HLE HONE hne s0 s1 sg1
  rintro W9 ⟨hS, hG, hO⟩
  have sg1' := hG.cell (i := 1) rfl
  have HS := Lib.hid hS
  have HG := Lib.hid hG
  have HO := Lib.hid hO
  clear hS hG hO
  go_upto_region 8 with fail
  clear sg1'
  obtain ⟨hkR, _⟩ := Ext.cells HS.out.row
  obtain ⟨hkG, _⟩ := Ext.cells HG.out
  have s0 : ∀ y : Ext W9.heap.size W9, y.world.cell? ⟨b, 1, none⟩ = some (.slice (some ⟨bl, 0, none⟩) 5 5) := fun y => hkR y 1
  have sg1 : ∀ y : Ext W9.heap.size W9, y.world.cell? ⟨w.heap.size, 1, none⟩ = some (.int .i64 (X : Int)) := fun y => hkG y 1
  clear hkR hkG
  refine wp_start (w := W9) ?_
  intro x8
  refine wp_region_ext_tail _ 9 (by kernel_rfl) (by kernel_rfl) (by kernel_rfl) ?_
  simp only [List.take_succ_cons, List.take_zero, List.drop_succ_cons, List.drop_zero]
  repeat (go_big_quiet_step (fail))
  refine wpQuiet_nil ?_
  rintro _ ⟨y8, rfl⟩
  clear s0 sg1
  have HS8 := Lib.hid (HS.out.ext y8.ok)
  have HG8 := Lib.hid (RowAt.ext HG.out y8.ok)
  have hXl : X * 4 + 3 < (putL cs j (lkS (.string K) true (X : Int) (-1))).length := by rw [HS8.out.len]; omega
  have cB := HS8.out.cell (List.getElem?_eq_getElem hXl)
  have fB := HS8.out.lks.frozen (X * 4 + 3)
  go_upto_region 9 with fail
  have hne : b ≠ bl ∧ bm ≠ bl ∧ w.heap.size ≠ bl := by have := HLT.out; exact ⟨HS8.out.ne2, HS8.out.ne3, by omega⟩
  refine wp_name (Pr := fun W9 => SAt W9 b bm bl M c ((putL cs j (lkS (.string K) true (X : Int) (-1))).set (X * 4 + 3) (.int .i64 j)) ∧ RowAt W9 w.heap.size #[.int .i64 E1, .int .i64 (X : Int), .int .i64 E3] 65 ∧ Only (S2 bm bl) w W9)
    ⟨{ HS8.out with row := RowAt.but HS8.out.row ((But.refl bl _).set _ _) hne.1, m := HS8.out.m.setCell _ _ hne.2.1, lks := (by have := HS8.out.lks.set (X * 4 + 3) (.int .i64 j); rwa [List.setIfInBounds_toArray] at this), len := (by rw [List.length_set]; exact HS8.out.len) }, RowAt.but HG8.out ((But.refl bl _).set _ _) hne.2.2, (HO.out.ext y8.ok).set (Or.inr rfl) _ _⟩ ?_
  clear HS HG HO HS8 HG8 hne cB fB hXl
  rintro W10 ⟨hS, hG, hO⟩
  have HS := Lib.hid hS
  have HG := Lib.hid hG
  have HO := Lib.hid hO
  obtain ⟨hkR, _⟩ := Ext.cells hS.row
  obtain ⟨hkG, _⟩ := Ext.cells hG
  have s0 : ∀ y : Ext W10.heap.size W10, y.world.cell? ⟨b, 0, none⟩ = some (.map (some bm)) := fun y => hkR y 0
  have sg0 : ∀ y : Ext W10.heap.size W10, y.world.cell? ⟨w.heap.size, 0, none⟩ = some (.int .i64 E1) := fun y => hkG y 0
  have sg2 : ∀ y : Ext W10.heap.size W10, y.world.cell? ⟨w.heap.size, 2, none⟩ = some (.int .i64 E3) := fun y => hkG y 2
  clear hS hG hO hkR hkG
  refine wp_start (w := W10) ?_
  intro x9
  refine wp_region_ext_tail _ 12 (by kernel_rfl) (by kernel_rfl) (by kernel_rfl) ?_
  simp only [List.take_succ_cons, List.take_zero, List.drop_succ_cons, List.drop_zero]
  repeat (go_big_quiet_step (fail))
  refine wpQuiet_nil ?_
  rintro _ ⟨y9, rfl⟩
  have HS9 := Lib.hid (HS.out.ext y9.ok)
  have HMY := Lib.hid HS9.out.m
  have hkt : Try.prog.underlying 89 = some (.map 9 65 ) := Try.underlying89
  go_wp2_with (at_mapUpdate; refine wpList_update_at rfl (.tmp 72) (.tmp 73) (.tmp 80) rfl keyEnc_s Try.underlying89 HMY.out rfl t (by rw [HK.out]; rfl) (endV (E1, (j : Int), E3 + 1)) rfl ?_)
  go_ret
  refine ⟨rfl, { HS9.out with row := HS9.out.row.setB _ HS9.out.ne1, m := HMY.out.set _ _, ok := HS9.out.ok.upd _ _, lks := HS9.out.lks.setB _ (Ne.symm HS9.out.ne3) }, (HO.out.ext y9.ok).setB (Or.inl rfl) _⟩
set_option maxHeartbeats 8000000 in
set_option maxRecDepth 100000 in
theorem push_ref (b bm bl : Nat) (M : List (Ent Bool)) (c : Nat) (cs : List Value) (w : World) (hS : SAt w b bm bl M c cs) (t : Bool) (j : Nat) (hj : j < 5) (h1 : cs[j * 4 + 1]? = some (.bool true)) :
    Calls Try.prog 37 #[.pointer (some ⟨b, 0, none⟩), es t, .int .i64 j] w fun e w' => e = .returned (.bool false) ∧ Below w.heap.size w w' := by
  have c1 : w.cell? ⟨b, 1, none⟩ = some (.slice (some ⟨bl, 0, none⟩) 5 5) := hS.row.cell (i := 1) rfl
  have c2 := hS.cell h1
  have d1 : decide ((j : Int) < 0) = false := dec_f (by omega)
  have d2 : decide ((5 : Int) ≤ (j : Int)) = false := dec_f (by omega)
  have hj5 : (j : Int) < 5 := by omega
  obtain ⟨K, hK⟩ : ∃ K, es t = .string K := by cases t <;> exact ⟨_, rfl⟩
  rw [hK]
  clear hS h1 hK
  go_enter Try.func37, Try.ntmps37
  go_wp2_with fail
  go_ret
  exact ⟨rfl, Below.refl _ _⟩
set_option maxHeartbeats 8000000 in
set_option maxRecDepth 100000 in
theorem is_at (b bm bl : Nat) (M : List (Ent Bool)) (c : Nat) (cs : List Value) (w : World) (hS : SAt w b bm bl M c cs) (j : Nat) (hj : j < 5) (x : Bool) (h1 : cs[j * 4 + 1]? = some (.bool x)) :
    Calls Try.prog 50 #[.pointer (some ⟨b, 0, none⟩), .int .i64 j] w fun e w' => e = .returned (.bool x) ∧ w = w' := by
  have c1 : w.cell? ⟨b, 1, none⟩ = some (.slice (some ⟨bl, 0, none⟩) 5 5) := hS.row.cell (i := 1) rfl
  have c2 := hS.cell h1
  have d1 : decide (0 ≤ (j : Int)) = true := dec_t (by omega)
  have d2 : decide ((j : Int) < 5) = true := dec_t (by omega)
  have hj5 : (j : Int) < 5 := by omega
  clear hS h1
  go_enter Try.func50, Try.ntmps50
  go_wp2_with fail
  go_ret
  exact ⟨rfl, rfl⟩
set_option maxHeartbeats 8000000 in
set_option maxRecDepth 100000 in
theorem next_at (b bm bl : Nat) (M : List (Ent Bool)) (c : Nat) (cs : List Value) (w : World) (hS : SAt w b bm bl M c cs) (j : Nat) (hj : j < 5) (v : Int) (h1 : cs[j * 4 + 1]? = some (.bool true)) (h3 : cs[j * 4 + 3]? = some (.int .i64 v)) :
    Calls Try.prog 57 #[.pointer (some ⟨b, 0, none⟩), .int .i64 j] w fun e w' => e = .returned (.int .i64 v) ∧ w = w' := by
  have HI := Lib.hid (is_at b bm bl M c cs w hS j hj true h1)
  have c1 : w.cell? ⟨b, 1, none⟩ = some (.slice (some ⟨bl, 0, none⟩) 5 5) := hS.row.cell (i := 1) rfl
  have c2 := hS.cell h3
  have hj5 : (j : Int) < 5 := by omega
  clear hS h1 h3
  go_enter Try.func57, Try.ntmps57
  go_wp2_with (go_at_call 50; refine HI.out.mono ?_; rintro e w1 ⟨rfl, rfl⟩)
  go_ret
  exact ⟨rfl, rfl⟩
set_option maxHeartbeats 8000000 in
set_option maxRecDepth 100000 in
theorem first_at (b bm bl : Nat) (M : List (Ent Bool)) (c : Nat) (cs : List Value) (w : World) (hS : SAt w b bm bl M c cs) (t : Bool) (E1 E2 E3 : Int) (hv : valL t M = some (endV (E1, E2, E3))) :
    Calls Try.prog 56 #[.pointer (some ⟨b, 0, none⟩), es t] w fun e w' => e = .returned (.int .i64 E1) ∧ Below w.heap.size w w' := by
  have c0 : w.cell? ⟨b, 0, none⟩ = some (.map (some bm)) := hS.row.cell (i := 0) rfl
  have hbl : b < w.heap.size ∧ bm < w.heap.size ∧ bl < w.heap.size := ⟨hS.row.lt, hS.m.lt, hS.lks.lt⟩
  have r0 := run_lookup_at (P := Try.prog) keyEnc_s Try.underlying89 (z := .agg #[.int .i64 0, .int .i64 0, .int .i64 0]) (by kernel_rfl) hS.m t true
  simp only [if_true] at r0
  rw [hv] at r0
  obtain ⟨K, hK⟩ : ∃ K, es t = .string K := by cases t <;> exact ⟨_, rfl⟩
  rw [hK] at r0 ⊢
  unfold endV at r0
  dsimp only [Option.getD, Option.isSome] at r0
  clear hS hv hK hbl
  go_enter Try.func56, Try.ntmps56
  go_wp2_with (first | simp only [r0] | fail)
  go_ret
  exact ⟨rfl, below_new (Below.refl _ _) _⟩
/-- The world within Remove. -/
structure RAt (w W : World) (b bm bl g : Nat) (M : List (Ent Bool)) (c : Nat) (cs : List Value) (X : Array Value) (g1 g2 g3 : Int) : Prop where
  s : SAt W b bm bl M c cs
  x : RowAt W w.heap.size X 94
  g_ : RowAt W g #[.int .i64 g1, .int .i64 g2, .int .i64 g3] 65
  o : Only (S2 bm bl) w W
  lt : b < w.heap.size ∧ bm < w.heap.size ∧ bl < w.heap.size
  no : w.heap.size < g
section
variable {w W W' : World} {b bm bl g : Nat} {M : List (Ent Bool)} {c : Nat} {cs : List Value} {X : Array Value} {g1 g2 g3 : Int}
theorem RAt.ext (h : RAt w W b bm bl g M c cs X g1 g2 g3) (hb : Below W.heap.size W W') : RAt w W' b bm bl g M c cs X g1 g2 g3 :=
  { h with s := h.s.ext hb, x := RowAt.ext h.x hb, g_ := RowAt.ext h.g_ hb, o := h.o.ext hb }
theorem RAt.setG (h : RAt w W b bm bl g M c cs X g1 g2 g3) {i : Nat} {v : Value} {k1 k2 k3 : Int} (hG : (#[.int .i64 g1, .int .i64 g2, .int .i64 g3] : Array Value).setIfInBounds i v = #[.int .i64 k1, .int .i64 k2, .int .i64 k3]) : RAt w (W.setCell ⟨g, i, none⟩ v) b bm bl g M c cs X k1 k2 k3 :=
  have hb := (But.refl g W).set i v
  have hl := h.lt
  have hn := h.no
  { h with s := { h.s with row := RowAt.but h.s.row hb (by omega), m := h.s.m.setCell _ _ (by omega), lks := RowAt.but h.s.lks hb (by omega) }, x := RowAt.but h.x hb (by omega), g_ := hG ▸ h.g_.set i v, o := only_far h.o (Nat.le_of_lt hn) i v }
theorem RAt.setL (h : RAt w W b bm bl g M c cs X g1 g2 g3) {i : Nat} {v : Value} : RAt w (W.setCell ⟨bl, i, none⟩ v) b bm bl g M c (cs.set i v) X g1 g2 g3 :=
  have hb := (But.refl bl W).set i v
  have hl := h.lt
  have hn := h.no
  { h with s := { h.s with row := RowAt.but h.s.row hb h.s.ne2, m := h.s.m.setCell _ _ h.s.ne3, lks := (by have := h.s.lks.set i v; rwa [List.setIfInBounds_toArray] at this), len := (by rw [List.length_set]; exact h.s.len) }, x := RowAt.but h.x hb (by omega), g_ := RowAt.but h.g_ hb (by omega), o := h.o.set (Or.inr rfl) _ _ }
theorem RAt.rowL (h : RAt w W b bm bl g M c cs X g1 g2 g3) {cs' : List Value} (hl' : cs'.length = 20) : RAt w (W.setRow bl cs'.toArray) b bm bl g M c cs' X g1 g2 g3 :=
  have hb := (But.refl bl W).setRow cs'.toArray
  have hl := h.lt
  have hn := h.no
  { h with s := { h.s with row := RowAt.but h.s.row hb h.s.ne2, m := h.s.m.setRow _ h.s.ne3, lks := h.s.lks.setRow _, len := hl' }, x := RowAt.but h.x hb (by omega), g_ := RowAt.but h.g_ hb (by omega), o := h.o.setRow (Or.inr rfl) _ }
end
set_option maxHeartbeats 8000000 in
set_option maxRecDepth 100000 in
theorem remove_first (b bm bl : Nat) (M : List (Ent Bool)) (c : Nat) (cs : List Value) (w : World) (hS : SAt w b bm bl M c cs) (t : Bool) (j Y : Nat) (hj : j < 5) (hY : Y < 5) (E1 E2 E3 : Int) (hE3 : 1 < E3 ∧ E3 ≤ 5) (h0 : cs[j * 4]? = some (es t)) (h1 : cs[j * 4 + 1]? = some (.bool true)) (h2 : cs[j * 4 + 2]? = some (.int .i64 (-1))) (h3 : cs[j * 4 + 3]? = some (.int .i64 (Y : Int))) (hv : valL t M = some (endV (E1, E2, E3))) :
    Calls Try.prog 39 #[.pointer (some ⟨b, 0, none⟩), .int .i64 j] w fun e w' => e = .returned (.bool true) ∧ SAt w' b bm bl (updL t (endV ((Y : Int), E2, E3 - 1)) c M) (updC t c M) (putL (cs.set (Y * 4 + 2) (.int .i64 (-1))) j (lkS (.string ⟨#[]⟩) false 0 0)) ∧ Only (S2 bm bl) w w' := by
  have HI := Lib.hid (is_at b bm bl M c cs w hS j hj true h1)
  obtain ⟨K, hK⟩ : ∃ K, es t = .string K := by cases t <;> exact ⟨_, rfl⟩
  rw [hK] at h0
  have HK := Lib.hid hK
  have c1 : w.cell? ⟨b, 1, none⟩ = some (.slice (some ⟨bl, 0, none⟩) 5 5) := hS.row.cell (i := 1) rfl
  have l0 := hS.cell h0
  have l1 := hS.cell h1
  have l2 := hS.cell h2
  have l3 := hS.cell h3
  have hj5 : (j : Int) < 5 := by omega
  have HLT := Lib.hid (show b < w.heap.size ∧ bm < w.heap.size ∧ bl < w.heap.size from ⟨hS.row.lt, hS.m.lt, hS.lks.lt⟩)
  have HS := Lib.hid hS
  have HV := Lib.hid hv
  clear hS h0 h1 h2 h3 hv hK
  go_enter Try.func39, Try.ntmps39
  go_upto_region 4 with (go_at_call 50; refine HI.out.mono ?_; rintro e w1 ⟨rfl, rfl⟩)
  refine wp_name (Pr := fun W => SAt W b bm bl M c cs ∧ RowAt W w.heap.size #[.string K, .bool true, .int .i64 (-1), .int .i64 (Y : Int)] 94 ∧ Below w.heap.size w W) ⟨HS.out.ext (below_new (Below.refl _ _) _), RowAt.new w _ _, below_new (Below.refl _ _) _⟩ ?_
  clear HS HI c1 l0 l1 l2 l3
  rintro W ⟨q, hX, hB⟩
  have HS := Lib.hid q
  have HX := Lib.hid hX
  have HB := Lib.hid hB
  obtain ⟨hkR, _⟩ := Ext.cells q.row
  obtain ⟨hkX, _⟩ := Ext.cells hX
  have s0 : ∀ y : Ext W.heap.size W, y.world.cell? ⟨b, 0, none⟩ = some (.map (some bm)) := fun y => hkR y 0
  have s1 : ∀ y : Ext W.heap.size W, y.world.cell? ⟨w.heap.size, 0, none⟩ = some (.string K) := fun y => hkX y 0
  have m0 := q.m.drew
  have m1 := (q.m.alloc (.cells #[.int .i64 0, .int .i64 0, .int .i64 0] 65 (0, 0))).drew
  have r0 := run_lookup_at (P := Try.prog) keyEnc_s Try.underlying89 (z := .agg #[.int .i64 0, .int .i64 0, .int .i64 0]) (by kernel_rfl) m0 t false
  have r1 := run_lookup_at (P := Try.prog) keyEnc_s Try.underlying89 (z := .agg #[.int .i64 0, .int .i64 0, .int .i64 0]) (by kernel_rfl) m1 t false
  simp only [Bool.false_eq_true, if_false] at r0 r1
  rw [HV.out, HK.out] at r0 r1
  unfold endV at r0 r1
  dsimp only [Option.getD] at r0 r1
  have HSS := Lib.hid (fun w' (h : Below W.heap.size W w') => (show w'.cell? ⟨b, 0, none⟩ = some (.map (some bm)) ∧ w'.cell? ⟨w.heap.size, 0, none⟩ = some (.string K) from ⟨s0 ⟨_, h⟩, s1 ⟨_, h⟩⟩))
  clear q hX hB hkR hkX m0 m1 s0 s1
  go_region_held3 (fun w' => w'.cell? ⟨b, 0, none⟩ = some (.map (some bm)) ∧ w'.cell? ⟨w.heap.size, 0, none⟩ = some (.string K))
    (first | exact HSS.out _ (Below.refl _ _).drew | exact HSS.out _ (below_new (Below.refl _ _) _).drew)
    (fail)
  all_goals
    dsimp only [Exit.then]
    refine k_name (Pr := fun W' => RAt w W' b bm bl W.heap.size M c cs #[.string K, .bool true, .int .i64 (-1), .int .i64 (Y : Int)] E1 E2 E3) ⟨HS.out.ext (below_new (Below.refl _ _) _).drew, RowAt.ext HX.out (below_new (Below.refl _ _) _).drew, (RowAt.new W _ _).drew, (only_of HB.out _).ext (below_new (Below.refl _ _) _).drew, HLT.out, HX.out.lt⟩ ?_
    rintro V h0
    clear HS HX HB HSS r0 r1
    have H0 := Lib.hid h0
    clear h0
    go_at_K
    have x2 := H0.out.x.cell (i := 2) rfl
    have x3 := H0.out.x.cell (i := 3) rfl
    have gc := H0.out.g_.cell (i := 0) rfl
    have gf := H0.out.g_.frozen 0
    have hY1 : ((Y : Int) == -1) = false := by simp
    have hY5 : (Y : Int) < 5 := by omega
    go_upto_region 8 with fail
    refine wp_name (Pr := fun V => RAt w V b bm bl W.heap.size M c cs #[.string K, .bool true, .int .i64 (-1), .int .i64 (Y : Int)] (Y : Int) E2 E3) (H0.out.setG rfl) ?_
    clear H0 x2 x3 gf gc
    rintro V2 h0
    have H0 := Lib.hid h0
    have x3 := h0.x.cell (i := 3) rfl
    clear h0
    go_upto_region 10 with fail
    clear x3
    obtain ⟨sr, _⟩ := Ext.cells H0.out.s.row
    obtain ⟨sx, _⟩ := Ext.cells H0.out.x
    have s0 : ∀ y : Ext V2.heap.size V2, y.world.cell? ⟨b, 1, none⟩ = some (.slice (some ⟨bl, 0, none⟩) 5 5) := fun y => sr y 1
    have s3 : ∀ y : Ext V2.heap.size V2, y.world.cell? ⟨w.heap.size, 2, none⟩ = some (.int .i64 (-1)) := fun y => sx y 2
    have s4 : ∀ y : Ext V2.heap.size V2, y.world.cell? ⟨w.heap.size, 3, none⟩ = some (.int .i64 (Y : Int)) := fun y => sx y 3
    clear sr sx
    refine wp_start (w := V2) ?_
    intro x0
    refine wp_region_ext_tail _ 10 (by kernel_rfl) (by kernel_rfl) (by kernel_rfl) ?_
    simp only [List.take_succ_cons, List.take_zero, List.drop_succ_cons, List.drop_zero]
    repeat (go_big_quiet_step (fail))
    refine wpQuiet_nil ?_
    rintro _ ⟨yw, rfl⟩
    have H1 := Lib.hid (H0.out.ext yw.ok)
    have hYl : Y * 4 + 2 < cs.length := by rw [H1.out.s.len]; omega
    have cB := H1.out.s.cell (List.getElem?_eq_getElem hYl)
    have fB := H1.out.s.lks.frozen (Y * 4 + 2)
    clear s0 s3 s4
    go_upto_region 11 with fail
    refine wp_name (Pr := fun V => RAt w V b bm bl W.heap.size M c (cs.set (Y * 4 + 2) (.int .i64 (-1))) #[.string K, .bool true, .int .i64 (-1), .int .i64 (Y : Int)] (Y : Int) E2 E3) H1.out.setL ?_
    clear H0 H1 cB fB hYl
    rintro V3 h0
    have H0 := Lib.hid h0
    have gf := h0.g_.frozen 2
    have gc := h0.g_.cell (i := 2) rfl
    have w1 : wrap64 (E3 - 1) = E3 - 1 := by unfold wrap64; omega
    have HW := Lib.hid w1
    clear h0 w1
    go_upto_region 12 with fail
    try rw [HW.out]
    refine wp_name (Pr := fun V => RAt w V b bm bl W.heap.size M c (cs.set (Y * 4 + 2) (.int .i64 (-1))) #[.string K, .bool true, .int .i64 (-1), .int .i64 (Y : Int)] (Y : Int) E2 (E3 - 1)) (H0.out.setG rfl) ?_
    clear H0 gf gc
    rintro V5 h0
    have H0 := Lib.hid h0
    have c1 := h0.s.row.cell (i := 1) rfl
    have HLE := Lib.hid (show j * 4 + 4 ≤ (cs.set (Y * 4 + 2) (.int .i64 (-1))).length by rw [h0.s.len]; omega)
    have HONE := Lib.hid (show ∀ v ∈ lkS (.string ⟨#[]⟩) false 0 0, v.oneCell' = true by
      intro v hv
      simp only [lkS, List.mem_cons, List.not_mem_nil, or_false] at hv
      rcases hv with rfl | rfl | rfl | rfl <;> rfl)
    clear h0
    go_upto_region 13 with (refine wpList_store_part rfl 94 (.tmp 67) (.tmp 66) rfl bl (j * 4) (lkS (.string ⟨#[]⟩) false 0 0) rfl rfl 94 (cs.set (Y * 4 + 2) (.int .i64 (-1))) H0.out.s.lks info_s HLE.out HONE.out ?_)
    simp only [Act.put]
    refine wp_name (Pr := fun V => RAt w V b bm bl W.heap.size M c (putL (cs.set (Y * 4 + 2) (.int .i64 (-1))) j (lkS (.string ⟨#[]⟩) false 0 0)) #[.string K, .bool true, .int .i64 (-1), .int .i64 (Y : Int)] (Y : Int) E2 (E3 - 1)) (H0.out.rowL (cs' := putL (cs.set (Y * 4 + 2) (.int .i64 (-1))) j (lkS (.string ⟨#[]⟩) false 0 0)) (putL_len H0.out.s.len hj rfl)) ?_
    clear H0 HLE c1 HONE
    rintro V6 h0
    have H0 := Lib.hid h0
    clear h0
    obtain ⟨sr, _⟩ := Ext.cells H0.out.s.row
    obtain ⟨sx, _⟩ := Ext.cells H0.out.x
    obtain ⟨sg, _⟩ := Ext.cells H0.out.g_
    have s0 : ∀ z : Ext V6.heap.size V6, z.world.cell? ⟨b, 0, none⟩ = some (.map (some bm)) := fun z => sr z 0
    have s1 : ∀ z : Ext V6.heap.size V6, z.world.cell? ⟨w.heap.size, 0, none⟩ = some (.string K) := fun z => sx z 0
    have s3 : ∀ z : Ext V6.heap.size V6, z.world.cell? ⟨W.heap.size, 0, none⟩ = some (.int .i64 (Y : Int)) := fun z => sg z 0
    have s4 : ∀ z : Ext V6.heap.size V6, z.world.cell? ⟨W.heap.size, 1, none⟩ = some (.int .i64 E2) := fun z => sg z 1
    have s5 : ∀ z : Ext V6.heap.size V6, z.world.cell? ⟨W.heap.size, 2, none⟩ = some (.int .i64 (E3 - 1)) := fun z => sg z 2
    clear sr sx sg
    refine wp_start (w := V6) ?_
    intro x0
    refine wp_region_ext_tail _ 7 (by kernel_rfl) (by kernel_rfl) (by kernel_rfl) ?_
    simp only [List.take_succ_cons, List.take_zero, List.drop_succ_cons, List.drop_zero]
    repeat (go_big_quiet_step (fail))
    refine wpQuiet_nil ?_
    rintro _ ⟨yw, rfl⟩
    clear s0 s1 s3 s4 s5
    have H1 := Lib.hid (H0.out.ext yw.ok)
    have HMY := Lib.hid H1.out.s.m
    go_upto_region 14 with (at_mapUpdate; refine wpList_update_at rfl (.tmp 71) (.tmp 73) (.tmp 74) rfl keyEnc_s Try.underlying89 HMY.out rfl t (by rw [HK.out]; rfl) (endV ((Y : Int), E2, E3 - 1)) rfl ?_)
    have hl := HLT.out
    have hn := H1.out.no
    have hg2 := (H1.out.g_.setB (mapObj es (updL t (endV ((Y : Int), E2, E3 - 1)) c M) (updC t c M)) (show W.heap.size ≠ bm by omega)).cell (i := 2) rfl
    have hne0 : (E3 - 1 == 0) = false := by
      apply beq_f
      omega
    clear hl hn
    go_wp2_with fail
    go_ret
    refine ⟨rfl, { H1.out.s with row := H1.out.s.row.setB _ H1.out.s.ne1, m := HMY.out.set _ _, ok := H1.out.s.ok.upd _ _, lks := H1.out.s.lks.setB _ (Ne.symm H1.out.s.ne3) }, H1.out.o.setB (Or.inl rfl) _⟩
theorem sp_mk (w : World) : (Instr.makeSlice 90 (.int .i64 5) (.int .i64 5)).run Try.prog w = .ok (.slice (some ⟨w.heap.size, 0, none⟩) 5 5) (w.alloc (.cells ((lkS (.string ⟨#[]⟩) false 0 0 ++ lkS (.string ⟨#[]⟩) false 0 0 ++ lkS (.string ⟨#[]⟩) false 0 0 ++ lkS (.string ⟨#[]⟩) false 0 0 ++ lkS (.string ⟨#[]⟩) false 0 0).toArray) 94 )) := by
  obtain ⟨i, hi, hz0, hz1, hz2⟩ := info_parts (show (Try.prog.info? 94 ).map (fun i => (i.zero, i.size, i.bytes)) = some (some (.agg #[.string ⟨#[]⟩, .bool false, .int .i64 0, .int .i64 0]), 4, 40) by kernel_rfl)
  have h := run_makeSlice (P := Try.prog) w 90 94 i (.agg #[.string ⟨#[]⟩, .bool false, .int .i64 0, .int .i64 0]) Try.underlying90 hi hz0 .i64 .i64 5 5 (by omega) (by omega) (by rw [hz1]; omega) (by rw [hz2]; omega) (by omega)
  rw [hz1] at h
  have e : madeCells (Value.agg #[.string ⟨#[]⟩, .bool false, .int .i64 0, .int .i64 0]).cells (Int.toNat 5 * 4) = ((lkS (.string ⟨#[]⟩) false 0 0 ++ lkS (.string ⟨#[]⟩) false 0 0 ++ lkS (.string ⟨#[]⟩) false 0 0 ++ lkS (.string ⟨#[]⟩) false 0 0 ++ lkS (.string ⟨#[]⟩) false 0 0).toArray) := by kernel_rfl
  rw [e] at h
  exact h
def cs0 : List Value := lkS (.string ⟨#[]⟩) false 0 0 ++ lkS (.string ⟨#[]⟩) false 0 0 ++ lkS (.string ⟨#[]⟩) false 0 0 ++ lkS (.string ⟨#[]⟩) false 0 0 ++ lkS (.string ⟨#[]⟩) false 0 0
set_option maxHeartbeats 8000000 in
set_option maxRecDepth 100000 in
theorem new_s (w : World) :
    Calls Try.prog 36 #[.int .i64 5] w fun e w' => ∃ b bm bl, e = .returned (.tuple #[.pointer (some ⟨b, 0, none⟩), .int .i64 0]) ∧ (w.heap.size ≤ b ∧ w.heap.size ≤ bm ∧ w.heap.size ≤ bl) ∧ SAt w' b bm bl [] 0 cs0 ∧ Below w.heap.size w w' := by
  have hmk := sp_mk
  have hm1 : ∀ w : World, (Instr.makeMap 89 none).run Try.prog w = .ok (.map (some w.heap.size)) (w.alloc (.map #[] 0)) := fun w => by kernel_rfl
  have hcs : ∀ W : World, W.alloc (.cells ((lkS (.string ⟨#[]⟩) false 0 0 ++ lkS (.string ⟨#[]⟩) false 0 0 ++ lkS (.string ⟨#[]⟩) false 0 0 ++ lkS (.string ⟨#[]⟩) false 0 0 ++ lkS (.string ⟨#[]⟩) false 0 0).toArray) 94 ) = W.alloc (.cells cs0.toArray 94 ) := fun W => rfl
  have hmk2 : ∀ w : World, (Instr.makeSlice 90 (.int .i64 5) (.int .i64 5)).run Try.prog w = .ok (.slice (some ⟨w.heap.size, 0, none⟩) 5 5) (w.alloc (.cells cs0.toArray 94 )) := sp_mk
  clear hmk hcs
  obtain ⟨C, hC⟩ : ∃ C, cs0.toArray = C := ⟨_, rfl⟩
  rw [hC] at hmk2
  have HC := Lib.hid hC
  clear hC
  go_enter Try.func36, Try.ntmps36
  go_wp2_with (first | simp only [hm1] | simp only [hmk2] | fail)
  refine bodyPost_ret (v := .tuple #[.pointer (some ⟨w.heap.size + 1 + 1, 0, none⟩), .int .i64 0]) (by simp [results, Try.results36, go_sem]) rfl ⟨w.heap.size + 1 + 1, w.heap.size, w.heap.size + 1, rfl, ⟨by omega, by omega, by omega⟩, ?_, below_new (below_new (below_new (Below.refl _ _) _) _) _⟩
  have hr := RowAt.new ((w.alloc (.map #[] 0)).alloc (.cells C 94 )) #[.map (some w.heap.size), .slice (some ⟨w.heap.size + 1, 0, none⟩) 5 5] 92
  have hl := RowAt.new (w.alloc (.map #[] 0)) C 94
  simp only [World.size_alloc] at hr hl
  exact { row := hr, m := ((MapAt.new w es).alloc _).alloc _, ok := MapOk.nil, lks := by rw [HC.out]; exact hl.alloc _, len := rfl, ne1 := by omega, ne2 := by omega, ne3 := by omega }
set_option maxHeartbeats 8000000 in
set_option maxRecDepth 100000 in
theorem each1_s (m : Nat) (hm : 1 ≤ m) (b bm bl Bc Bk : Nat) (M : List (Ent Bool)) (c : Nat) (cs : List Value) (t : Bool) (F : List Nat) (E2 E3 : Int) (hv : valL t M = some (endV (headI F, E2, E3))) (hnd : F.Nodup)
    (hnx : ∀ pre x rest, F = pre ++ x :: rest → x < 5 ∧ cs[x * 4 + 1]? = some (.bool true) ∧ cs[x * 4 + 3]? = some (.int .i64 (headI rest))) (I : List Nat → World → Prop) (hI : ∀ pre W, I pre W → SAt W b bm bl M c cs ∧ W.cell? ⟨Bc, 0, none⟩ = some (.pointer (some ⟨b, 0, none⟩)) ∧ W.cell? ⟨Bk, 0, none⟩ = some (es t)) (B0 : Nat) :
    SeqAt Fence.wide m Try.prog 55 #[.pointer (some ⟨Bc, 0, none⟩), .pointer (some ⟨Bk, 0, none⟩)] (fun x : Nat => #[.int .i64 (x : Int)]) I (fun xs => xs = F) F.length B0 := by
  intro l J W hJI hJ hY h0
  refine callsIn_of_wp Try.func55 rfl trivial ?_ rfl
  simp only [Try.ntmps55, List.size_toArray, List.length_cons, List.length_nil, Nat.reduceAdd, Nat.reduceSub, Array.replicate_succ, Array.replicate_zero, List.push_toArray, List.append_toArray, List.nil_append, List.cons_append]
  obtain ⟨hA, c0, c1⟩ := hI _ _ (hJI _ _ h0)
  have HF := Lib.hid (first_at b bm bl M c cs W hA t (headI F) E2 E3 hv)
  obtain ⟨K, hK⟩ : ∃ K, es t = .string K := by cases t <;> exact ⟨_, rfl⟩
  rw [hK] at c1 HF
  have HV := Lib.hid hv
  have HK := Lib.hid hK
  clear hA hv hK
  gi_wp2_with (refine ⟨trivial, ?_⟩; gi_at_call 56; refine (callsIn_wide.2 HF.out).mono ?_; rintro e w1 ⟨rfl, hb1⟩)
  have j1 := abides_ext hJ h0 hb1
  clear c0 c1 HF
  gi_loopw [4] (fun v wr => ∃ pre rest : List Nat, v = .int .i64 (headI rest) ∧ F = pre ++ rest ∧ J pre wr) (fun v wr => leftI F (intOf v))
  case atStart => exact ⟨[], F, rfl, rfl, j1⟩
  case round =>
    obtain ⟨pre, rest, rfl, hx0, hj⟩ := hrel
    have HX := Lib.hid hx0
    clear hx0
    cases rest with
    | nil =>
      have e1 : headI [] = -1 := rfl
      rw [e1]
      gi_wp2
      go_end0
      exact ⟨⟨_, rfl⟩, pre, by rw [HX.out]; simp, hj⟩
    | cons x rest =>
      have e1 : headI (x :: rest) = (x : Int) := rfl
      rw [e1]
      obtain ⟨hA, c0, c1⟩ := hI _ _ (hJI _ _ hj)
      obtain ⟨q1, q2, q3⟩ := hnx pre x rest HX.out
      have HN := Lib.hid (next_at b bm bl M c cs wr hA x q1 (headI rest) q2 q3)
      have dn : (((x : Nat) : Int) == -1) = false := by simp
      have dn2 : ((x : Int) != -1) = true := by simp
      obtain ⟨fn, tmps, assign, body, hy, hR⟩ := hY pre x _ hj (by rw [HX.out]; simp)
      have HR := Lib.hid hR
      clear hA c1 hR q1 q2 q3
      gi_wp2_with (refine ⟨trivial, ?_⟩; gi_at_call 57; refine (callsIn_wide.2 HN.out).mono ?_; rintro e w1 ⟨rfl, rfl⟩)
      refine HR.out.mono ?_
      rintro e W3 ⟨rfl, hJ3⟩
      gi_wp2
      go_roundw
      case measure =>
        have hn2 : (pre ++ x :: rest).Nodup := HX.out ▸ hnd
        have hn3 : ((pre ++ [x]) ++ rest).Nodup := by simpa using hn2
        have m1 : leftI F (headI rest) = rest.length := by rw [HX.out, show pre ++ x :: rest = (pre ++ [x]) ++ rest by simp, leftI_app hn3]
        have m2 : leftI F (x : Int) = rest.length + 1 := by
          have := leftI_app hn2
          rw [HX.out]
          exact this
        show leftI F (headI rest) < leftI F (x : Int)
        rw [m1, m2]
        omega
      case rel => exact ⟨pre ++ [x], rest, rfl, by rw [HX.out]; simp, hJ3⟩
set_option maxHeartbeats 8000000 in
set_option maxRecDepth 100000 in
theorem all_s (b bm bl : Nat) (M : List (Ent Bool)) (c : Nat) (cs : List Value) (w : World) (hS : SAt w b bm bl M c cs) (t : Bool) (F : List Nat) (E2 E3 : Int) (hv : valL t M = some (endV (headI F, E2, E3))) (hnd : F.Nodup ∧ F.length ≤ 5)
    (hnx : ∀ pre x rest, F = pre ++ x :: rest → x < 5 ∧ cs[x * 4 + 1]? = some (.bool true) ∧ cs[x * 4 + 3]? = some (.int .i64 (headI rest))) :
    Calls Try.prog 38 #[.pointer (some ⟨b, 0, none⟩), es t] w fun e w' => ∃ v, e = .returned v ∧ Lst .i64 w' v (F.map fun x : Nat => (x : Int)) (fun g => w.heap.size ≤ g) ∧ Below w.heap.size w w' := by
  obtain ⟨K, hK⟩ : ∃ K, es t = .string K := by cases t <;> exact ⟨_, rfl⟩
  rw [hK]
  have HC : ∀ W Bc Bk, SAt W b bm bl M c cs → W.cell? ⟨Bc, 0, none⟩ = some (.pointer (some ⟨b, 0, none⟩)) → W.cell? ⟨Bk, 0, none⟩ = some (.string K) → Calls Try.prog 40 #[.func (.func 55) #[] #[.pointer (some ⟨Bc, 0, none⟩), .pointer (some ⟨Bk, 0, none⟩)]] W fun e w' => ∃ v, e = .returned v ∧ w'.ownsRow W.heap.size 3 1 v F.length (ic F) ∧ Below W.heap.size W w' := by
    intro W Bc Bk hS1 hc1 hk1
    have HA : Calls Try.prog 51 #[.slice none 0 0, .func (.func 55) #[] #[.pointer (some ⟨Bc, 0, none⟩), .pointer (some ⟨Bk, 0, none⟩)]] W fun e w' => ∃ v, e = .returned v ∧ w'.ownsRow W.heap.size 3 1 v F.length (ic F) ∧ Below W.heap.size W w' := by
      obtain ⟨i0, hi, hz0, hz1, hz2⟩ := info_parts info_i
      have HS := Lib.hid (And.intro hS1 (And.intro hc1 hk1))
      have HV := Lib.hid (And.intro hv (And.intro hK hnx))
      clear hS1 hc1 hk1 hv hnx hK
      refine (callsIn_wide (n := 5)).1 ?_
      refine callsIn_of_wp_marks Try.func51 rfl trivial ?_ rfl
      simp only [Try.ntmps51, List.size_toArray, List.length_cons, List.length_nil, Nat.reduceAdd, Nat.reduceSub, Array.replicate_succ, Array.replicate_zero, List.push_toArray, List.append_toArray, List.nil_append, List.cons_append]
      gi_wp2
      have bO := Boxed.new W 40 (.slice none 0 0)
      have hB0 : Below W.heap.size W (W.alloc (.cells #[.slice none 0 0] 40)) := below_new (Below.refl _ _) _
      refine wpIn_range_at rfl (by omega) (gf := 55) (lb := #[.pointer (some ⟨Bc, 0, none⟩), .pointer (some ⟨Bk, 0, none⟩)]) rfl trivial (enters_of Try.func55 (by kernel_rfl) rfl) (encs := fun x : Nat => #[.int .i64 (x : Int)]) (S := fun xs => xs = F) (N := F.length) (fun _ => rfl)
        (fun pre V => (∃ v, Boxed V W.heap.size 40 v ∧ V.ownsRow W.heap.size 3 1 v pre.length (ic pre) ∧ True) ∧ Below W.heap.size W V)
        (OwnFrom.and (Own.from (holdsRow_own W.heap.size W.heap.size 40 3 1 (fun pre : List Nat => pre.length) ic (fun _ _ => True)) _) (ownFrom_below (Nat.le_refl _) (by simp)))
        ⟨⟨_, bO, ⟨by simp [ic], .inl ⟨rfl, rfl⟩⟩, trivial⟩, hB0⟩
        (fun x => { tmps := #[.slice none 0 0, .func (.func 55) #[] #[.pointer (some ⟨Bc, 0, none⟩), .pointer (some ⟨Bk, 0, none⟩)], .pointer (some ⟨W.heap.size, 0, none⟩), undef, .slice none 0 0, .int .i64 (x : Int), .func (.func 55) #[] #[.pointer (some ⟨Bc, 0, none⟩), .pointer (some ⟨Bk, 0, none⟩)], .int .i64 (x : Int), undef, undef, undef, undef, undef], defers := [] })
        (each1_s _ (by omega) b bm bl Bc Bk M c cs t F E2 E3 HV.out.1 hnd.1 HV.out.2.2 _ (fun pre V h => ⟨HS.out.1.ext h.2, (⟨_, h.2⟩ : Ext _ W).cell HS.out.2.1, by rw [HV.out.2.1]; exact (⟨_, h.2⟩ : Ext _ W).cell HS.out.2.2⟩) _)
        ?assign ?body ?done
      case assign =>
        intro l x V Kk hKk
        gi_wp2
        exact hKk
      case body =>
        rintro l pre x V ⟨⟨v, hv, hrow, -⟩, hBw⟩ hlt
        have hc := hv.cell
        have hf := hv.frozen
        have hlt2 := hnd.2
        gi_wp2_with (gi_at_builtin; refine wpListIn_append_own _ rfl _ _ 40 rfl W.heap.size 3 i0 (.int .i64 0) 1 8 Try.underlying40 hi hz0 hz1 hz2 rfl (by decide) _ _ _ rfl (hrow.alloc _) ⟨V.heap.size, 0, none⟩ 1 1 [.int .i64 (x : Int)] rfl rfl (cell_one_new _ _ _) (by simp [Value.oneCell']) (have h5 : (5000 : Nat) ≤ maxLen := (by unfold maxLen; omega); by omega) (by omega) (by have := hBw.size; simp; omega) ?_; intro v' w1 hown' hgrow _; obtain ⟨g', cap', rfl⟩ := ownsRow_succ hown'; obtain ⟨hv1, hv2, hr2, hk2, hb2⟩ := hv.appended (by decide) hrow hBw.size (Nat.le_refl _) hown' hgrow; have hc1 := hv1.cell; have hf1 := hv1.frozen)
        exact ⟨hk2.from _, ⟨_, hv2, by rw [ic_snoc]; exact hr2⟩, hBw.trans hb2⟩
      case done =>
        rintro D ys V hD hy ⟨⟨v, hv, hrow, -⟩, hBw⟩ hKd
        subst hy
        have hc := hv.cell
        have hf := hv.frozen
        gi_wp2
        refine ⟨by simp, .inl ⟨_, _, rfl, run_takeDeferred hKd, ?_⟩⟩
        exact ⟨_, results_tmp rfl _ _ _, v, rfl, ownsRow_putObj hrow _ hKd rfl, hBw.trans (belowK_b (w := W) (Nat.le_refl _) V D _ _ (by simp at hD; omega) hKd rfl rfl)⟩
    have HA2 := Lib.hid HA
    clear HA hS1 hc1 hk1 hv hnx hK
    go_enter Try.func40, Try.ntmps40
    go_wp2_with (go_at_call 51; refine HA2.out.mono ?_; rintro e w1 ⟨v, rfl, hown, hb⟩)
    go_ret
    exact ⟨v, rfl, hown, hb⟩
  have hB3 : Below w.heap.size w ((w.alloc (.cells #[.pointer (some ⟨b, 0, none⟩)] 67 )).alloc (.cells #[.string K] 9 )) := below_new (below_new (Below.refl _ _) _) _
  have r1 := RowAt.new w #[.pointer (some ⟨b, 0, none⟩)] 67
  have r2 := RowAt.new (w.alloc (.cells #[.pointer (some ⟨b, 0, none⟩)] 67 )) #[.string K] 9
  rw [World.size_alloc] at r2
  have HC2 := Lib.hid (HC _ w.heap.size (w.heap.size + 1) (hS.ext hB3) ((r1.alloc _).cell (i := 0) rfl) (r2.cell (i := 0) rfl))
  have HB := Lib.hid hB3
  clear HC hB3 r1 r2 hS hv hnx hK
  have HE : Hid (Calls Try.prog 49 #[.pointer (some ⟨b, 0, none⟩), .string K] w fun e w' => e = .returned (.func (.func 55) #[] #[.pointer (some ⟨w.heap.size, 0, none⟩), .pointer (some ⟨w.heap.size + 1, 0, none⟩)]) ∧ w' = (w.alloc (.cells #[.pointer (some ⟨b, 0, none⟩)] 67 )).alloc (.cells #[.string K] 9 )) := by
    refine Lib.hid ?_
    go_enter Try.func49, Try.ntmps49
    go_wp2
    go_ret
    exact ⟨rfl, rfl⟩
  go_enter Try.func38, Try.ntmps38
  go_wp2_with (first | (go_at_call 49; refine HE.out.mono ?_; rintro e w1 ⟨rfl, rfl⟩) | (go_at_call 40; refine HC2.out.mono ?_; rintro e w1 ⟨v, rfl, hown, hb⟩))
  go_ret
  refine ⟨v, rfl, ?_, below_then HB.out hb⟩
  have hw := HB.out.size
  have h2 : F.length = (F.map fun x : Nat => (x : Int)).length := by simp
  have h3 : ic F = (F.map fun x : Nat => (x : Int)).map (Value.int .i64) := by simp [ic]
  rw [h2, h3] at hown
  exact (Lst.of_own hown).mono fun g hg => Nat.le_trans hw hg
end Str
end Go.Proofs.Ytelnembjcgkiaaa
