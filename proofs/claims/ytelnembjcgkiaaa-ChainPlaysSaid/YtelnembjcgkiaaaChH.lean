/- Chains at keys of two numbers: Remove. -/
import Derived.Test.YtelnembjcgkiaaaChG
namespace Go.Proofs.Ytelnembjcgkiaaa
open Go.RowKit
set_option linter.unusedVariables false
set_option linter.unusedSimpArgs false

theorem in_link {n : Nat} {L : List ((Int × Int) × Nat)} {lk : Nat → Lk (Int × Int)} {hd : Int × Int → Option (Int × Int × Int)} (h : Rep (0, 0) n L lk hd) {j : Nat} {k : Int × Int} {inn : Bool} {ah be : Int} (hlk : lk j = ⟨k, inn, ah, be⟩) (hin : inn = true) : (k, j) ∈ L := by
  by_cases hm : ∃ p ∈ L, p.2 = j
  · obtain ⟨⟨k', i⟩, hp, rfl⟩ := hm
    obtain ⟨A, B, hAB⟩ := List.append_of_mem (mem_ofK.2 hp)
    have := h.link k' A i B hAB
    rw [hlk] at this
    injection this with e1
    rw [e1]
    exact hp
  · have := h.out j fun p hp e => hm ⟨p, hp, e⟩
    rw [hlk] at this
    injection this with e1 e2
    rw [hin] at e2
    cases e2
set_option maxHeartbeats 8000000 in
set_option maxRecDepth 100000 in
theorem remove_no (b bm bl n : Nat) (L : List ((Int × Int) × Nat)) (lk : Nat → Lk (Int × Int)) (w : World) (hA : ChAt w b bm bl n L lk) (hn : n ≤ 4096) (i : Int) (h : inB n lk i = false) :
    Calls Try.prog 9 #[.pointer (some ⟨b, 0, none⟩), .int .i64 i] w fun e w' => e = .returned (.bool false) ∧ Below w.heap.size w w' := by
  have hi := is_any b bm bl n L lk w hA hn i
  rw [h] at hi
  have HI := Lib.hid hi
  clear hi h hA
  go_enter Try.func9, Try.ntmps9
  go_wp2_with (go_at_call 35; refine HI.out.mono ?_; rintro e w1 ⟨rfl, rfl⟩)
  go_ret
  exact ⟨rfl, Below.refl _ _⟩
set_option maxHeartbeats 8000000 in
set_option maxRecDepth 100000 in
theorem remove_nil (i : Int) (w : World) :
    Calls Try.prog 9 #[.pointer none, .int .i64 i] w fun e w' => e = .returned (.bool false) ∧ Below w.heap.size w w' := by
  go_enter Try.func9, Try.ntmps9
  go_wp2_with (go_at_call 35; refine (is_nil i _).mono ?_; rintro e w1 ⟨rfl, rfl⟩)
  go_ret
  exact ⟨rfl, Below.refl _ _⟩

theorem lkR_set3 (lk : Nat → Lk (Int × Int)) (n X : Nat) (v : Int) (hX : X < n) : ((lkR lk n).toArray.setIfInBounds (X * 5 + 3) (.int .i64 v)) = (lkR (upd lk X { lk X with ahead := v }) n).toArray := by
  have h := grpL_set (f := fun i => lkC (lk i)) n (fun i => lkC_len _) (.int .i64 v) hX (show 3 < 5 by decide)
  have e : upd (fun i => lkC (lk i)) X ((lkC (lk X)).set 3 (.int .i64 v)) = fun i => lkC (upd lk X { lk X with ahead := v } i) := by
    funext i
    unfold upd
    split <;> rfl
  rw [e] at h
  have h2 : (lkR lk n).set (X * 5 + 3) (.int .i64 v) = lkR (upd lk X { lk X with ahead := v }) n := h
  rw [← h2]
  simp
/-- The world within Remove: the chains' blocks, the link's copy (at x), the ends' copy (at g). -/
structure RmS (w W : World) (b bm bl x g n cp : Nat) (l : Nat → Lk (Int × Int)) (M : List (Ent (Int × Int))) (c : Nat) (X : Array Value) (g1 g2 g3 : Int) : Prop where
  row : RowAt W b #[.map (some bm), .slice (some ⟨bl, 0, none⟩) n cp] 61
  m : MapAt W bm ek M c
  lks : RowAt W bl (lkR l cp).toArray 63
  xr : RowAt W x X 63
  gr : RowAt W g #[.int .i64 g1, .int .i64 g2, .int .i64 g3] 65
  o : Only (S2 bm bl) w W
  n1 : b ≠ bm
  n2 : b ≠ bl
  n3 : bm ≠ bl
  n4 : x ≠ bm
  n5 : x ≠ bl
  n6 : g ≠ bm
  n7 : g ≠ bl
  n8 : b ≠ g
  n9 : x ≠ g
  no : w.heap.size ≤ g
section
variable {w W W' : World} {b bm bl x g n cp : Nat} {l : Nat → Lk (Int × Int)} {M : List (Ent (Int × Int))} {c : Nat} {X : Array Value} {g1 g2 g3 : Int}
theorem RmS.ext (h : RmS w W b bm bl x g n cp l M c X g1 g2 g3) (hb : Below W.heap.size W W') : RmS w W' b bm bl x g n cp l M c X g1 g2 g3 :=
  { h with row := RowAt.ext h.row hb, m := h.m.ext hb, lks := RowAt.ext h.lks hb, xr := RowAt.ext h.xr hb, gr := RowAt.ext h.gr hb, o := h.o.ext hb }
theorem only_far {S : Nat → Prop} (h : Only S w W) {k : Nat} (hk : w.heap.size ≤ k) (i : Nat) (v : Value) : Only S w (W.setCell ⟨k, i, none⟩ v) := by
  have hb := (But.refl k W).set i v
  exact ⟨hb.os.trans h.os, hb.tape.trans h.tape, hb.output.trans h.output, Nat.le_trans h.size hb.size, fun q hq hs => (hb.block q (Nat.lt_of_lt_of_le hq h.size) (fun e => absurd (e ▸ hk : w.heap.size ≤ q) (Nat.not_le.2 hq))).trans (h.block q hq hs)⟩
theorem RmS.setG (h : RmS w W b bm bl x g n cp l M c X g1 g2 g3) {i : Nat} {v : Value} {k1 k2 k3 : Int} (hG : (#[.int .i64 g1, .int .i64 g2, .int .i64 g3] : Array Value).setIfInBounds i v = #[.int .i64 k1, .int .i64 k2, .int .i64 k3]) : RmS w (W.setCell ⟨g, i, none⟩ v) b bm bl x g n cp l M c X k1 k2 k3 :=
  have hb := (But.refl g W).set i v
  { h with row := RowAt.but h.row hb h.n8, m := h.m.setCell _ _ (Ne.symm h.n6), lks := RowAt.but h.lks hb (Ne.symm h.n7), xr := RowAt.but h.xr hb h.n9, gr := hG ▸ h.gr.set i v, o := only_far h.o h.no i v }
theorem RmS.setL (h : RmS w W b bm bl x g n cp l M c X g1 g2 g3) {i : Nat} {v : Value} {l' : Nat → Lk (Int × Int)} (hL : (lkR l cp).toArray.setIfInBounds i v = (lkR l' cp).toArray) : RmS w (W.setCell ⟨bl, i, none⟩ v) b bm bl x g n cp l' M c X g1 g2 g3 :=
  have hb := (But.refl bl W).set i v
  { h with row := RowAt.but h.row hb h.n2, m := h.m.setCell _ _ h.n3, lks := hL ▸ h.lks.set i v, xr := RowAt.but h.xr hb h.n5, gr := RowAt.but h.gr hb h.n7, o := h.o.set (Or.inr rfl) _ _ }
theorem RmS.rowL (h : RmS w W b bm bl x g n cp l M c X g1 g2 g3) {l' : Nat → Lk (Int × Int)} {cs : Array Value} (hL : cs = (lkR l' cp).toArray) : RmS w (W.setRow bl cs) b bm bl x g n cp l' M c X g1 g2 g3 :=
  have hb := (But.refl bl W).setRow cs
  { h with row := RowAt.but h.row hb h.n2, m := h.m.setRow _ h.n3, lks := hL ▸ h.lks.setRow cs, xr := RowAt.but h.xr hb h.n5, gr := RowAt.but h.gr hb h.n7, o := h.o.setRow (Or.inr rfl) _ }
theorem RmS.setM (h : RmS w W b bm bl x g n cp l M c X g1 g2 g3) (M' : List (Ent (Int × Int))) (c' : Nat) : RmS w (setB W bm (mapObj ek M' c')) b bm bl x g n cp l M' c' X g1 g2 g3 :=
  { h with row := h.row.setB _ h.n1, m := h.m.set _ _, lks := h.lks.setB _ (Ne.symm h.n3), xr := h.xr.setB _ h.n4, gr := h.gr.setB _ h.n6, o := h.o.setB (Or.inl rfl) _ }
end
/-- A list without a thing. -/
def dropT {κ : Type} (L : List (κ × Nat)) (j : Nat) : List (κ × Nat) := L.filter fun p => decide (p.2 ≠ j)
theorem rm_fin {w w0 W' : World} {b bm bl x g n cp : Nat} {L : List ((Int × Int) × Nat)} {lk l' : Nat → Lk (Int × Int)} {M M' : List (Ent (Int × Int))} {c c' : Nat} {X : Array Value} {g1 g2 g3 : Int} {k : Int × Int} {j : Nat} {A B : List Nat} (q : ChIn w0 b bm bl n cp L lk M c) (hAB : ofK L k = A ++ j :: B)
    (h : RmS w W' b bm bl x g n cp l' M' c' X g1 g2 g3) (hl : l' = dropL lk (0, 0) j (lastI A) (headI B)) (hok : MapOk M' c') (hv : ∀ k', valL k' M' = if k' = k then (headV (A ++ B)).map endV else valL k' M) :
    (∃ lk', ChAt W' b bm bl n (dropT L j) lk') ∧ Only (S2 bm bl) w W' := by
  have hd : Rep (0, 0) n (dropT L j) (dropL lk (0, 0) j (lastI A) (headI B)) _ := q.rep.drop k j A B hAB
  have hh := hd.hd
  refine ⟨⟨_, _, _, cp, { row := h.row, m := h.m, ok := hok, lks := h.lks, cple := q.cple, rep := ?_, v := fun k' => ?_, ne1 := q.ne1, ne2 := q.ne2, ne3 := q.ne3 }⟩, h.o⟩
  · rw [hl]
    exact (funext hh) ▸ hd
  · rw [hv, ← hh k']
    by_cases hk : k' = k
    · rw [if_pos hk, if_pos hk]
    · rw [if_neg hk, if_neg hk, q.v]
/-- The ends behind Remove. -/
theorem rm_ends {A B : List Nat} {j : Nat} (h : A ++ B ≠ []) : headV (A ++ B) = some (if lastI A = -1 then headI B else (e1 (A ++ j :: B)).1, if headI B = -1 then lastI A else (e1 (A ++ j :: B)).2.1, ((A ++ j :: B).length : Int) - 1) := by
  have h1 : e1 (A ++ j :: B) = (headI (A ++ j :: B), lastI (A ++ j :: B), ((A ++ j :: B).length : Int)) := by
    unfold e1 headV
    rw [if_neg (by simp)]
    rfl
  rw [h1]
  unfold headV
  rw [if_neg h]
  congr 1
  refine Prod.ext ?_ (Prod.ext ?_ ?_)
  · by_cases hA : lastI A = -1
    · rw [if_pos hA, lastI_neg.1 hA]; rfl
    · rw [if_neg hA]
      cases A with
      | nil => exact absurd rfl hA
      | cons a r => rfl
  · dsimp only
    by_cases hB : headI B = -1
    · rw [if_pos hB, headI_neg.1 hB, List.append_nil]
    · rw [if_neg hB]
      cases B with
      | nil => exact absurd rfl hB
      | cons a r => rw [lastI_app, lastI_app, show j :: a :: r = [j] ++ a :: r from rfl, lastI_app]
  · dsimp only
    simp only [List.length_append, List.length_cons]
    omega
theorem rm_val {A B : List Nat} {j : Nat} {F : List Nat} (hAB : F = A ++ j :: B) {E1 E2 E3 g1 g2 : Int} (hE : (e1 F).1 = E1 ∧ (e1 F).2.1 = E2 ∧ (e1 F).2.2 = E3) (hg1 : g1 = if lastI A = -1 then headI B else E1) (hg2 : g2 = if headI B = -1 then lastI A else E2) (hne : ¬ E3 - 1 = 0) :
    (headV (A ++ B)).map endV = some (endV (g1, g2, E3 - 1)) := by
  have hl : E3 = ((A ++ j :: B).length : Int) := by rw [← hE.2.2, hAB, len_e1]
  have h0 : A ++ B ≠ [] := by
    intro h
    apply hne
    rw [hl]
    have := congrArg List.length h
    simp only [List.length_append, List.length_cons, List.length_nil] at this ⊢
    omega
  rw [rm_ends (j := j) h0, ← hAB, hE.1, hE.2.1, hg1, hg2, hAB, hl]
  rfl
theorem rm_none {A B : List Nat} {j : Nat} {F : List Nat} (hAB : F = A ++ j :: B) {E3 : Int} (hE : (e1 F).2.2 = E3) (h : E3 - 1 = 0) : headV (A ++ B) = none := by
  have hl : E3 = ((A ++ j :: B).length : Int) := by rw [← hE, hAB, len_e1]
  have h0 : A ++ B = [] := by
    rw [hl] at h
    simp only [List.length_append, List.length_cons] at h
    apply List.eq_nil_of_length_eq_zero
    rw [List.length_append]
    omega
  rw [h0]; rfl
set_option maxHeartbeats 8000000 in
set_option maxRecDepth 100000 in
theorem remove_yes (b bm bl n : Nat) (L : List ((Int × Int) × Nat)) (lk : Nat → Lk (Int × Int)) (w : World) (hA : ChAt w b bm bl n L lk) (hn : n ≤ 4096) (j : Nat) (h : inB n lk (j : Int) = true) :
    Calls Try.prog 9 #[.pointer (some ⟨b, 0, none⟩), .int .i64 j] w fun e w' => e = .returned (.bool true) ∧ (∃ lk', ChAt w' b bm bl n (dropT L j) lk') ∧ Only (S2 bm bl) w w' := by
  have hi := is_any b bm bl n L lk w hA hn (j : Int)
  rw [h] at hi
  have HI := Lib.hid hi
  obtain ⟨M, c, cp, q⟩ := hA
  have hjn : j < n := by have := (inB_range h).2; omega
  obtain ⟨⟨⟨k1, k2⟩, inn, ah, be⟩, hlk⟩ : ∃ X, lk j = X := ⟨_, rfl⟩
  have c1 : w.cell? ⟨b, 1, none⟩ = some (.slice (some ⟨bl, 0, none⟩) n cp) := q.row.cell (i := 1) rfl
  have l0 : w.cell? ⟨bl, j * 5, none⟩ = some (.int .i64 k1) := lk_cell (j := 0) q hjn (by decide) (by rw [hlk]; rfl)
  have l1 : w.cell? ⟨bl, j * 5 + 1, none⟩ = some (.int .i64 k2) := lk_cell (j := 1) q hjn (by decide) (by rw [hlk]; rfl)
  have l2 : w.cell? ⟨bl, j * 5 + 2, none⟩ = some (.bool inn) := lk_cell (j := 2) q hjn (by decide) (by rw [hlk]; rfl)
  have l3 : w.cell? ⟨bl, j * 5 + 3, none⟩ = some (.int .i64 ah) := lk_cell (j := 3) q hjn (by decide) (by rw [hlk]; rfl)
  have l4 : w.cell? ⟨bl, j * 5 + 4, none⟩ = some (.int .i64 be) := lk_cell (j := 4) q hjn (by decide) (by rw [hlk]; rfl)
  have hjl : (j : Int) < (n : Int) := by omega
  have HLT := Lib.hid (show b < w.heap.size ∧ bm < w.heap.size ∧ bl < w.heap.size from ⟨q.row.lt, q.m.lt, q.lks.lt⟩)
  have HQ := Lib.hid q
  have HLK := Lib.hid hlk
  clear q hi hlk
  go_enter Try.func9, Try.ntmps9
  go_upto_region 4 with (go_at_call 35; refine HI.out.mono ?_; rintro e w1 ⟨rfl, rfl⟩)
  refine wp_name (Pr := fun W => ChIn W b bm bl n cp L lk M c ∧ RowAt W w.heap.size #[.int .i64 k1, .int .i64 k2, .bool inn, .int .i64 ah, .int .i64 be] 63 ∧ Below w.heap.size w W) ⟨HQ.out.ext (below_new (Below.refl _ _) _), RowAt.new w _ _, below_new (Below.refl _ _) _⟩ ?_
  clear HQ HI c1 l0 l1 l2 l3 l4
  rintro W ⟨q, hX, hB⟩
  have HQ := Lib.hid q
  have HX := Lib.hid hX
  have HB := Lib.hid hB
  obtain ⟨hkR, _⟩ := Ext.cells q.row
  obtain ⟨hkX, _⟩ := Ext.cells hX
  have s0 : ∀ y : Ext W.heap.size W, y.world.cell? ⟨b, 0, none⟩ = some (.map (some bm)) := fun y => hkR y 0
  have s1 : ∀ y : Ext W.heap.size W, y.world.cell? ⟨w.heap.size, 0, none⟩ = some (.int .i64 k1) := fun y => hkX y 0
  have s2 : ∀ y : Ext W.heap.size W, y.world.cell? ⟨w.heap.size, 1, none⟩ = some (.int .i64 k2) := fun y => hkX y 1
  have HV := Lib.hid (val_e1 q.v (k1, k2))
  have m0 := q.m.drew
  have m1 := (q.m.alloc (.cells #[.int .i64 0, .int .i64 0, .int .i64 0] 65 (0, 0))).drew
  have r0 := run_lookup_at keyEnc_ek Try.underlying58 (z := .agg #[.int .i64 0, .int .i64 0, .int .i64 0]) (by kernel_rfl) m0 (k1, k2) false
  have r1 := run_lookup_at keyEnc_ek Try.underlying58 (z := .agg #[.int .i64 0, .int .i64 0, .int .i64 0]) (by kernel_rfl) m1 (k1, k2) false
  simp only [Bool.false_eq_true, if_false] at r0 r1
  rw [HV.out] at r0 r1
  unfold ek at r0 r1
  obtain ⟨E1, hE1⟩ : ∃ E, (e1 (ofK L (k1, k2))).1 = E := ⟨_, rfl⟩
  obtain ⟨E2, hE2⟩ : ∃ E, (e1 (ofK L (k1, k2))).2.1 = E := ⟨_, rfl⟩
  obtain ⟨E3, hE3⟩ : ∃ E, (e1 (ofK L (k1, k2))).2.2 = E := ⟨_, rfl⟩
  rw [hE1, hE2, hE3] at r0 r1
  have HE := Lib.hid (And.intro hE1 (And.intro hE2 hE3))
  have HS := Lib.hid (fun w' (h : Below W.heap.size W w') => (show w'.cell? ⟨b, 0, none⟩ = some (.map (some bm)) ∧ w'.cell? ⟨w.heap.size, 0, none⟩ = some (.int .i64 k1) ∧ w'.cell? ⟨w.heap.size, 1, none⟩ = some (.int .i64 k2) from ⟨s0 ⟨_, h⟩, s1 ⟨_, h⟩, s2 ⟨_, h⟩⟩))
  clear q hX hB hkR hkX m0 m1 hE1 hE2 hE3 s0 s1 s2
  go_region_held3 (fun w' => w'.cell? ⟨b, 0, none⟩ = some (.map (some bm)) ∧ w'.cell? ⟨w.heap.size, 0, none⟩ = some (.int .i64 k1) ∧ w'.cell? ⟨w.heap.size, 1, none⟩ = some (.int .i64 k2))
    (first | exact HS.out _ (Below.refl _ _).drew | exact HS.out _ (below_new (Below.refl _ _) _).drew)
    (fail)
  all_goals
    dsimp only [Exit.then]
    refine k_name (Pr := fun W' => RowAt W' W.heap.size #[.int .i64 E1, .int .i64 E2, .int .i64 E3] 65 ∧ Below W.heap.size W W') ⟨(RowAt.new W _ _).drew, (below_new (Below.refl _ _) _).drew⟩ ?_
    rintro W6 ⟨h6, hB6⟩
    have hlt3 : b < W.heap.size ∧ bm < W.heap.size ∧ bl < W.heap.size := ⟨HQ.out.row.lt, HQ.out.m.lt, HQ.out.lks.lt⟩
    have hxW : w.heap.size < W.heap.size := HX.out.lt
    have hwW : w.heap.size ≤ W.heap.size := Nat.le_of_lt hxW
    have HQ6 := Lib.hid (HQ.out.ext hB6)
    have HX6 := Lib.hid (RowAt.ext HX.out hB6)
    have HB6 := Lib.hid (below_then HB.out hB6)
    have H6 := Lib.hid h6
    have x3 := HX6.out.cell (i := 3) rfl
    have x4 := HX6.out.cell (i := 4) rfl
    have g0 := h6.cell (i := 0) rfl
    have gf0 := h6.frozen 0
    clear h6 hB6 HQ HX HB HS HV r0 r1
    obtain ⟨A, B, hAB⟩ := List.append_of_mem (mem_ofK.2 (in_link HQ6.out.rep HLK.out (show inn = true by have := h; unfold inB at this; rw [if_pos ⟨by omega, by omega⟩, Int.toNat_natCast, HLK.out] at this; exact this)))
    have hl := HQ6.out.rep.link _ A j B hAB
    rw [HLK.out] at hl
    injection hl with hl1 hl2 hl3 hl4
    have HAB := Lib.hid hAB
    have HLL := Lib.hid (And.intro hl3 hl4)
    have hE3 : wrap64 (E3 - 1) = E3 - 1 := by
      have h1 : E3 = ((ofK L (k1, k2)).length : Int) := by rw [← HE.out.2.2, len_e1]
      have h2 := len_le HQ6.out.rep (k1, k2)
      rw [h1]; unfold wrap64; omega
    have HW := Lib.hid hE3
    clear hl1 hl2 hl3 hl4 hAB x3 x4 g0 gf0 hE3
    have hltw := HLT.out
    have H0 : Hid (RmS w W6 b bm bl w.heap.size W.heap.size n cp lk M c #[.int .i64 k1, .int .i64 k2, .bool inn, .int .i64 ah, .int .i64 be] E1 E2 E3) := Lib.hid
      ⟨HQ6.out.row, HQ6.out.m, HQ6.out.lks, HX6.out, H6.out, only_of HB6.out _, HQ6.out.ne1, HQ6.out.ne2, HQ6.out.ne3, by omega, by omega, by omega, by omega, by omega, by omega, hwW⟩
    have HNLT := Lib.hid hlt3
    clear HX6 HB6 H6 hlt3 hxW hwW hltw
    go_at_K
    by_cases hA : ah = -1
    · have hA' : (ah == -1) = true := by simp [hA]
      have HA := Lib.hid hA
      clear hA
      have x3 := H0.out.xr.cell (i := 3) rfl
      go_upto_region 6 with fail
      clear x3
      have x3 := H0.out.xr.cell (i := 3) rfl
      have x4 := H0.out.xr.cell (i := 4) rfl
      have gf := H0.out.gr.frozen 0
      have gc := H0.out.gr.cell (i := 0) rfl
      go_upto_region 8 with fail
      refine wp_name (Pr := fun V => RmS w V b bm bl w.heap.size W.heap.size n cp (lk) (M) (c) #[.int .i64 k1, .int .i64 k2, .bool inn, .int .i64 ah, .int .i64 be] (be) (E2) (E3)) (H0.out.setG rfl) ?_
      clear H0 x3 x4 gf gc
      rintro V7 h0
      have H0 := Lib.hid h0
      clear h0
      by_cases hB : be = -1
      · have hB' : (be == -1) = true := by simp [hB]
        have HB := Lib.hid hB
        clear hB
        have x4 := H0.out.xr.cell (i := 4) rfl
        go_upto_region 9 with fail
        clear x4
        have x3 := H0.out.xr.cell (i := 3) rfl
        have x4 := H0.out.xr.cell (i := 4) rfl
        have gf := H0.out.gr.frozen 1
        have gc := H0.out.gr.cell (i := 1) rfl
        go_upto_region 11 with fail
        refine wp_name (Pr := fun V => RmS w V b bm bl w.heap.size W.heap.size n cp (lk) (M) (c) #[.int .i64 k1, .int .i64 k2, .bool inn, .int .i64 ah, .int .i64 be] (be) (ah) (E3)) (H0.out.setG rfl) ?_
        clear H0 x3 x4 gf gc
        rintro V7b h0
        have H0 := Lib.hid h0
        clear h0
        have w1 := HW.out
        have gf := H0.out.gr.frozen 2
        have gc := H0.out.gr.cell (i := 2) rfl
        go_upto_region 12 with fail
        rw [w1]
        refine wp_name (Pr := fun V => RmS w V b bm bl w.heap.size W.heap.size n cp (lk) (M) (c) #[.int .i64 k1, .int .i64 k2, .bool inn, .int .i64 ah, .int .i64 be] (be) (ah) (E3 - 1)) (H0.out.setG rfl) ?_
        clear H0 gf gc w1
        rintro V5 h0
        have H0 := Lib.hid h0
        have c1 := h0.row.cell (i := 1) rfl
        have HLE := Lib.hid (show j * 5 + 5 ≤ (lkR (lk) cp).length by rw [lkR_len]; have := HQ6.out.cple; omega)
        clear h0
        go_upto_region 13 with (refine wpList_store_part rfl 63 (.tmp 67) (.tmp 66) rfl bl (j * 5) (lkC ⟨(0, 0), false, 0, 0⟩) rfl rfl 63 (lkR (lk) cp) H0.out.lks info_lk HLE.out (lkC_one _) ?_)
        simp only [Act.put]
        refine wp_name (Pr := fun V => RmS w V b bm bl w.heap.size W.heap.size n cp (upd (lk) j ⟨(0, 0), false, 0, 0⟩) (M) (c) #[.int .i64 k1, .int .i64 k2, .bool inn, .int .i64 ah, .int .i64 be] (be) (ah) (E3 - 1)) (H0.out.rowL (congrArg List.toArray (lkR_part (lk) cp j ⟨(0, 0), false, 0, 0⟩ (Nat.lt_of_lt_of_le hjn HQ6.out.cple)))) ?_
        clear H0 HLE c1
        rintro V6 h0
        have H0 := Lib.hid h0
        clear h0
        obtain ⟨sr, _⟩ := Ext.cells H0.out.row
        obtain ⟨sx, _⟩ := Ext.cells H0.out.xr
        obtain ⟨sg, _⟩ := Ext.cells H0.out.gr
        have s0 : ∀ z : Ext V6.heap.size V6, z.world.cell? ⟨b, 0, none⟩ = some (.map (some bm)) := fun z => sr z 0
        have s1 : ∀ z : Ext V6.heap.size V6, z.world.cell? ⟨w.heap.size, 0, none⟩ = some (.int .i64 k1) := fun z => sx z 0
        have s2 : ∀ z : Ext V6.heap.size V6, z.world.cell? ⟨w.heap.size, 1, none⟩ = some (.int .i64 k2) := fun z => sx z 1
        have s3 : ∀ z : Ext V6.heap.size V6, z.world.cell? ⟨W.heap.size, 0, none⟩ = some (.int .i64 (be)) := fun z => sg z 0
        have s4 : ∀ z : Ext V6.heap.size V6, z.world.cell? ⟨W.heap.size, 1, none⟩ = some (.int .i64 (ah)) := fun z => sg z 1
        have s5 : ∀ z : Ext V6.heap.size V6, z.world.cell? ⟨W.heap.size, 2, none⟩ = some (.int .i64 (E3 - 1)) := fun z => sg z 2
        clear sr sx sg
        refine wp_start (w := V6) ?_
        intro x0
        refine wp_region_ext_tail _ 7 (by kernel_rfl) (by kernel_rfl) (by kernel_rfl) ?_
        simp only [List.take_succ_cons, List.take_zero, List.drop_succ_cons, List.drop_zero]
        repeat (go_big_quiet_step (fail))
        refine wpQuiet_nil ?_
        rintro _ ⟨yw, rfl⟩
        clear s0 s1 s2 s3 s4 s5
        have H1 := Lib.hid (H0.out.ext yw.ok)
        have HMY := Lib.hid H1.out.m
        go_upto_region 14 with (at_mapUpdate; refine wpList_update_at rfl (.tmp 71) (.tmp 73) (.tmp 74) rfl keyEnc_ek Try.underlying58 HMY.out rfl (k1, k2) rfl (endV (be, ah, E3 - 1)) rfl ?_)
        refine wp_name (Pr := fun V => RmS w V b bm bl w.heap.size W.heap.size n cp (upd (lk) j ⟨(0, 0), false, 0, 0⟩) (updL (k1, k2) (endV (be, ah, E3 - 1)) c M) (updC (k1, k2) c M) #[.int .i64 k1, .int .i64 k2, .bool inn, .int .i64 ah, .int .i64 be] (be) (ah) (E3 - 1)) (H1.out.setM _ _) ?_
        clear H0 H1 HMY
        rintro V7 h0
        have H0 := Lib.hid h0
        have g2 := h0.gr.cell (i := 2) rfl
        clear h0
        by_cases h9 : E3 - 1 = 0
        · have h9' : (E3 - 1 == 0) = true := by simp [h9]
          have H9 := Lib.hid h9
          clear h9
          go_upto_region 15 with fail
          clear g2
          obtain ⟨sr, _⟩ := Ext.cells H0.out.row
          obtain ⟨sx, _⟩ := Ext.cells H0.out.xr
          have s0 : ∀ z : Ext V7.heap.size V7, z.world.cell? ⟨b, 0, none⟩ = some (.map (some bm)) := fun z => sr z 0
          have s1 : ∀ z : Ext V7.heap.size V7, z.world.cell? ⟨w.heap.size, 0, none⟩ = some (.int .i64 k1) := fun z => sx z 0
          have s2 : ∀ z : Ext V7.heap.size V7, z.world.cell? ⟨w.heap.size, 1, none⟩ = some (.int .i64 k2) := fun z => sx z 1
          clear sr sx
          refine wp_start (w := V7) ?_
          intro x0
          refine wp_region_ext_tail _ 6 (by kernel_rfl) (by kernel_rfl) (by kernel_rfl) ?_
          simp only [List.take_succ_cons, List.take_zero, List.drop_succ_cons, List.drop_zero]
          repeat (go_big_quiet_step (fail))
          refine wpQuiet_nil ?_
          rintro _ ⟨yw, rfl⟩
          clear s0 s1 s2
          have H1 := Lib.hid (H0.out.ext yw.ok)
          have hdel : (Builtin.delete_ #[ 58 , 28 ] 0 #[.map (some bm), .agg #[.int .i64 k1, .int .i64 k2]]).run Try.prog yw.world = .ok (.tuple #[]) (setB yw.world bm (mapObj ek (delL (k1, k2) (updL (k1, k2) (endV (be, ah, E3 - 1)) c M)) (updC (k1, k2) c M))) := run_delete_at keyEnc_ek Try.underlying58 H1.out.m (k1, k2) 0
          go_wp2_with (first | simp only [hdel] | fail)
          go_ret
          have okU := HQ6.out.ok.upd (k1, k2) (endV (be, ah, E3 - 1))
          refine ⟨rfl, rm_fin HQ6.out HAB.out (H1.out.setM _ _) ?_ (okU.del (k1, k2)) fun k' => ?_⟩
          · unfold dropL; dsimp only; rw [← HLL.out.1, ← HLL.out.2, if_pos HA.out, if_pos HB.out]
          · rw [valL_del _ _ _ okU.keys, valL_upd, rm_none HAB.out HE.out.2.2 H9.out]
            by_cases hk : k' = (k1, k2)
            · rw [if_pos hk, if_pos hk]; rfl
            · rw [if_neg hk, if_neg hk, if_neg hk]
        · have h9' : (E3 - 1 == 0) = false := by simp [h9]
          go_wp2_with fail
          go_ret
          refine ⟨rfl, rm_fin HQ6.out HAB.out H0.out ?_ (HQ6.out.ok.upd _ _) fun k' => ?_⟩
          · unfold dropL; dsimp only; rw [← HLL.out.1, ← HLL.out.2, if_pos HA.out, if_pos HB.out]
          · rw [valL_upd, rm_val HAB.out HE.out (g1 := be) (g2 := ah) (by rw [← HLL.out.1, if_pos HA.out, ← HLL.out.2]) (by rw [← HLL.out.2, if_pos HB.out, ← HLL.out.1]) h9]
      · obtain ⟨y, B', rfl⟩ : ∃ (y : Nat) (B' : List Nat), B = y :: B' := by
          cases B with
          | nil => exact absurd HLL.out.2 hB
          | cons y B' => exact ⟨y, B', rfl⟩
        obtain rfl : be = (y : Int) := HLL.out.2
        have hB' : ((y : Int) == -1) = false := by simp
        have yn : y < n := HQ6.out.rep.lt _ (mem_ofK.1 (show y ∈ ofK L (k1, k2) by rw [HAB.out]; simp))
        have HB := Lib.hid hB
        clear hB
        have x3 := H0.out.xr.cell (i := 3) rfl
        have x4 := H0.out.xr.cell (i := 4) rfl
        go_upto_region 10 with fail
        clear x3 x4
        have hxlt : (y : Int) < (n : Int) := by omega
        have hx0 : (0 : Int) ≤ (y : Int) := by omega
        have c1 := H0.out.row.cell (i := 1) rfl
        obtain ⟨sr, _⟩ := Ext.cells H0.out.row
        obtain ⟨sx, _⟩ := Ext.cells H0.out.xr
        have s0 : ∀ y : Ext V7.heap.size V7, y.world.cell? ⟨b, 1, none⟩ = some (.slice (some ⟨bl, 0, none⟩) n cp) := fun y => sr y 1
        have s3 : ∀ y : Ext V7.heap.size V7, y.world.cell? ⟨w.heap.size, 3, none⟩ = _ := fun y => sx y 3
        have s4 : ∀ y : Ext V7.heap.size V7, y.world.cell? ⟨w.heap.size, 4, none⟩ = _ := fun y => sx y 4
        clear sr sx c1
        refine wp_start (w := V7) ?_
        intro x0
        refine wp_region_ext_tail _ 10 (by kernel_rfl) (by kernel_rfl) (by kernel_rfl) ?_
        simp only [List.take_succ_cons, List.take_zero, List.drop_succ_cons, List.drop_zero]
        repeat (go_big_quiet_step (fail))
        refine wpQuiet_nil ?_
        rintro _ ⟨yw, rfl⟩
        have H1 := Lib.hid (H0.out.ext yw.ok)
        have cB := lk_cell0 (j := 3) H1.out.lks (Nat.lt_of_lt_of_le yn HQ6.out.cple) (by decide) rfl
        have fB := H1.out.lks.frozen (y * 5 + 3)
        clear s0 s3 s4 hxlt hx0
        go_upto_region 11 with fail
        refine wp_name (Pr := fun V => RmS w V b bm bl w.heap.size W.heap.size n cp (upd (lk) y { (lk) y with ahead := ah }) (M) (c) #[.int .i64 k1, .int .i64 k2, .bool inn, .int .i64 ah, .int .i64 y] ((y : Int)) (E2) (E3)) (H1.out.setL (lkR_set3 _ cp y (ah) (Nat.lt_of_lt_of_le yn HQ6.out.cple))) ?_
        clear H0 H1 cB fB
        rintro V7b h0
        have H0 := Lib.hid h0
        clear h0
        have w1 := HW.out
        have gf := H0.out.gr.frozen 2
        have gc := H0.out.gr.cell (i := 2) rfl
        go_upto_region 12 with fail
        rw [w1]
        refine wp_name (Pr := fun V => RmS w V b bm bl w.heap.size W.heap.size n cp (upd (lk) y { (lk) y with ahead := ah }) (M) (c) #[.int .i64 k1, .int .i64 k2, .bool inn, .int .i64 ah, .int .i64 y] ((y : Int)) (E2) (E3 - 1)) (H0.out.setG rfl) ?_
        clear H0 gf gc w1
        rintro V5 h0
        have H0 := Lib.hid h0
        have c1 := h0.row.cell (i := 1) rfl
        have HLE := Lib.hid (show j * 5 + 5 ≤ (lkR (upd (lk) y { (lk) y with ahead := ah }) cp).length by rw [lkR_len]; have := HQ6.out.cple; omega)
        clear h0
        go_upto_region 13 with (refine wpList_store_part rfl 63 (.tmp 67) (.tmp 66) rfl bl (j * 5) (lkC ⟨(0, 0), false, 0, 0⟩) rfl rfl 63 (lkR (upd (lk) y { (lk) y with ahead := ah }) cp) H0.out.lks info_lk HLE.out (lkC_one _) ?_)
        simp only [Act.put]
        refine wp_name (Pr := fun V => RmS w V b bm bl w.heap.size W.heap.size n cp (upd (upd (lk) y { (lk) y with ahead := ah }) j ⟨(0, 0), false, 0, 0⟩) (M) (c) #[.int .i64 k1, .int .i64 k2, .bool inn, .int .i64 ah, .int .i64 y] ((y : Int)) (E2) (E3 - 1)) (H0.out.rowL (congrArg List.toArray (lkR_part (upd (lk) y { (lk) y with ahead := ah }) cp j ⟨(0, 0), false, 0, 0⟩ (Nat.lt_of_lt_of_le hjn HQ6.out.cple)))) ?_
        clear H0 HLE c1
        rintro V6 h0
        have H0 := Lib.hid h0
        clear h0
        obtain ⟨sr, _⟩ := Ext.cells H0.out.row
        obtain ⟨sx, _⟩ := Ext.cells H0.out.xr
        obtain ⟨sg, _⟩ := Ext.cells H0.out.gr
        have s0 : ∀ z : Ext V6.heap.size V6, z.world.cell? ⟨b, 0, none⟩ = some (.map (some bm)) := fun z => sr z 0
        have s1 : ∀ z : Ext V6.heap.size V6, z.world.cell? ⟨w.heap.size, 0, none⟩ = some (.int .i64 k1) := fun z => sx z 0
        have s2 : ∀ z : Ext V6.heap.size V6, z.world.cell? ⟨w.heap.size, 1, none⟩ = some (.int .i64 k2) := fun z => sx z 1
        have s3 : ∀ z : Ext V6.heap.size V6, z.world.cell? ⟨W.heap.size, 0, none⟩ = some (.int .i64 ((y : Int))) := fun z => sg z 0
        have s4 : ∀ z : Ext V6.heap.size V6, z.world.cell? ⟨W.heap.size, 1, none⟩ = some (.int .i64 (E2)) := fun z => sg z 1
        have s5 : ∀ z : Ext V6.heap.size V6, z.world.cell? ⟨W.heap.size, 2, none⟩ = some (.int .i64 (E3 - 1)) := fun z => sg z 2
        clear sr sx sg
        refine wp_start (w := V6) ?_
        intro x0
        refine wp_region_ext_tail _ 7 (by kernel_rfl) (by kernel_rfl) (by kernel_rfl) ?_
        simp only [List.take_succ_cons, List.take_zero, List.drop_succ_cons, List.drop_zero]
        repeat (go_big_quiet_step (fail))
        refine wpQuiet_nil ?_
        rintro _ ⟨yw, rfl⟩
        clear s0 s1 s2 s3 s4 s5
        have H1 := Lib.hid (H0.out.ext yw.ok)
        have HMY := Lib.hid H1.out.m
        go_upto_region 14 with (at_mapUpdate; refine wpList_update_at rfl (.tmp 71) (.tmp 73) (.tmp 74) rfl keyEnc_ek Try.underlying58 HMY.out rfl (k1, k2) rfl (endV ((y : Int), E2, E3 - 1)) rfl ?_)
        refine wp_name (Pr := fun V => RmS w V b bm bl w.heap.size W.heap.size n cp (upd (upd (lk) y { (lk) y with ahead := ah }) j ⟨(0, 0), false, 0, 0⟩) (updL (k1, k2) (endV ((y : Int), E2, E3 - 1)) c M) (updC (k1, k2) c M) #[.int .i64 k1, .int .i64 k2, .bool inn, .int .i64 ah, .int .i64 y] ((y : Int)) (E2) (E3 - 1)) (H1.out.setM _ _) ?_
        clear H0 H1 HMY
        rintro V7 h0
        have H0 := Lib.hid h0
        have g2 := h0.gr.cell (i := 2) rfl
        clear h0
        by_cases h9 : E3 - 1 = 0
        · have h9' : (E3 - 1 == 0) = true := by simp [h9]
          have H9 := Lib.hid h9
          clear h9
          go_upto_region 15 with fail
          clear g2
          obtain ⟨sr, _⟩ := Ext.cells H0.out.row
          obtain ⟨sx, _⟩ := Ext.cells H0.out.xr
          have s0 : ∀ z : Ext V7.heap.size V7, z.world.cell? ⟨b, 0, none⟩ = some (.map (some bm)) := fun z => sr z 0
          have s1 : ∀ z : Ext V7.heap.size V7, z.world.cell? ⟨w.heap.size, 0, none⟩ = some (.int .i64 k1) := fun z => sx z 0
          have s2 : ∀ z : Ext V7.heap.size V7, z.world.cell? ⟨w.heap.size, 1, none⟩ = some (.int .i64 k2) := fun z => sx z 1
          clear sr sx
          refine wp_start (w := V7) ?_
          intro x0
          refine wp_region_ext_tail _ 6 (by kernel_rfl) (by kernel_rfl) (by kernel_rfl) ?_
          simp only [List.take_succ_cons, List.take_zero, List.drop_succ_cons, List.drop_zero]
          repeat (go_big_quiet_step (fail))
          refine wpQuiet_nil ?_
          rintro _ ⟨yw, rfl⟩
          clear s0 s1 s2
          have H1 := Lib.hid (H0.out.ext yw.ok)
          have hdel : (Builtin.delete_ #[ 58 , 28 ] 0 #[.map (some bm), .agg #[.int .i64 k1, .int .i64 k2]]).run Try.prog yw.world = .ok (.tuple #[]) (setB yw.world bm (mapObj ek (delL (k1, k2) (updL (k1, k2) (endV ((y : Int), E2, E3 - 1)) c M)) (updC (k1, k2) c M))) := run_delete_at keyEnc_ek Try.underlying58 H1.out.m (k1, k2) 0
          go_wp2_with (first | simp only [hdel] | fail)
          go_ret
          have okU := HQ6.out.ok.upd (k1, k2) (endV ((y : Int), E2, E3 - 1))
          refine ⟨rfl, rm_fin HQ6.out HAB.out (H1.out.setM _ _) ?_ (okU.del (k1, k2)) fun k' => ?_⟩
          · unfold dropL; dsimp only; rw [← HLL.out.1, ← HLL.out.2, if_pos HA.out, if_neg HB.out, Int.toNat_natCast]
          · rw [valL_del _ _ _ okU.keys, valL_upd, rm_none HAB.out HE.out.2.2 H9.out]
            by_cases hk : k' = (k1, k2)
            · rw [if_pos hk, if_pos hk]; rfl
            · rw [if_neg hk, if_neg hk, if_neg hk]
        · have h9' : (E3 - 1 == 0) = false := by simp [h9]
          go_wp2_with fail
          go_ret
          refine ⟨rfl, rm_fin HQ6.out HAB.out H0.out ?_ (HQ6.out.ok.upd _ _) fun k' => ?_⟩
          · unfold dropL; dsimp only; rw [← HLL.out.1, ← HLL.out.2, if_pos HA.out, if_neg HB.out, Int.toNat_natCast]
          · rw [valL_upd, rm_val HAB.out HE.out (g1 := (y : Int)) (g2 := E2) (by rw [← HLL.out.1, if_pos HA.out, ← HLL.out.2]) (by rw [← HLL.out.2, if_neg HB.out]) h9]
    · obtain ⟨A', x, rfl⟩ : ∃ (A' : List Nat) (x : Nat), A = A' ++ [x] := by
        rcases snoc_cases A with rfl | h
        · exact absurd HLL.out.1 hA
        · exact h
      obtain rfl : ah = (x : Int) := by rw [HLL.out.1, lastI_snoc]
      have hA' : ((x : Int) == -1) = false := by simp
      have HA := Lib.hid hA
      clear hA
      have xn : x < n := HQ6.out.rep.lt _ (mem_ofK.1 (show x ∈ ofK L (k1, k2) by rw [HAB.out]; simp))
      have x3 := H0.out.xr.cell (i := 3) rfl
      have x4 := H0.out.xr.cell (i := 4) rfl
      go_upto_region 7 with fail
      clear x3 x4
      have hxlt : (x : Int) < (n : Int) := by omega
      have hx0 : (0 : Int) ≤ (x : Int) := by omega
      have c1 := H0.out.row.cell (i := 1) rfl
      obtain ⟨sr, _⟩ := Ext.cells H0.out.row
      obtain ⟨sx, _⟩ := Ext.cells H0.out.xr
      have s0 : ∀ y : Ext W6.heap.size W6, y.world.cell? ⟨b, 1, none⟩ = some (.slice (some ⟨bl, 0, none⟩) n cp) := fun y => sr y 1
      have s3 : ∀ y : Ext W6.heap.size W6, y.world.cell? ⟨w.heap.size, 3, none⟩ = _ := fun y => sx y 3
      have s4 : ∀ y : Ext W6.heap.size W6, y.world.cell? ⟨w.heap.size, 4, none⟩ = _ := fun y => sx y 4
      clear sr sx c1
      refine wp_start (w := W6) ?_
      intro x0
      refine wp_region_ext_tail _ 10 (by kernel_rfl) (by kernel_rfl) (by kernel_rfl) ?_
      simp only [List.take_succ_cons, List.take_zero, List.drop_succ_cons, List.drop_zero]
      repeat (go_big_quiet_step (fail))
      refine wpQuiet_nil ?_
      rintro _ ⟨yw, rfl⟩
      have H1 := Lib.hid (H0.out.ext yw.ok)
      have cB := lk_cell0 (j := 4) H1.out.lks (Nat.lt_of_lt_of_le xn HQ6.out.cple) (by decide) rfl
      have fB := H1.out.lks.frozen (x * 5 + 4)
      clear s0 s3 s4 hxlt hx0
      go_upto_region 8 with fail
      refine wp_name (Pr := fun V => RmS w V b bm bl w.heap.size W.heap.size n cp (upd lk x { lk x with behind := be }) (M) (c) #[.int .i64 k1, .int .i64 k2, .bool inn, .int .i64 x, .int .i64 be] (E1) (E2) (E3)) (H1.out.setL (lkR_set _ cp x (be) (Nat.lt_of_lt_of_le xn HQ6.out.cple))) ?_
      clear H0 H1 cB fB
      rintro V7 h0
      have H0 := Lib.hid h0
      clear h0
      by_cases hB : be = -1
      · have hB' : (be == -1) = true := by simp [hB]
        have HB := Lib.hid hB
        clear hB
        have x4 := H0.out.xr.cell (i := 4) rfl
        go_upto_region 9 with fail
        clear x4
        have x3 := H0.out.xr.cell (i := 3) rfl
        have x4 := H0.out.xr.cell (i := 4) rfl
        have gf := H0.out.gr.frozen 1
        have gc := H0.out.gr.cell (i := 1) rfl
        go_upto_region 11 with fail
        refine wp_name (Pr := fun V => RmS w V b bm bl w.heap.size W.heap.size n cp (upd lk x { lk x with behind := be }) (M) (c) #[.int .i64 k1, .int .i64 k2, .bool inn, .int .i64 x, .int .i64 be] (E1) (x) (E3)) (H0.out.setG rfl) ?_
        clear H0 x3 x4 gf gc
        rintro V7b h0
        have H0 := Lib.hid h0
        clear h0
        have w1 := HW.out
        have gf := H0.out.gr.frozen 2
        have gc := H0.out.gr.cell (i := 2) rfl
        go_upto_region 12 with fail
        rw [w1]
        refine wp_name (Pr := fun V => RmS w V b bm bl w.heap.size W.heap.size n cp (upd lk x { lk x with behind := be }) (M) (c) #[.int .i64 k1, .int .i64 k2, .bool inn, .int .i64 x, .int .i64 be] (E1) (x) (E3 - 1)) (H0.out.setG rfl) ?_
        clear H0 gf gc w1
        rintro V5 h0
        have H0 := Lib.hid h0
        have c1 := h0.row.cell (i := 1) rfl
        have HLE := Lib.hid (show j * 5 + 5 ≤ (lkR (upd lk x { lk x with behind := be }) cp).length by rw [lkR_len]; have := HQ6.out.cple; omega)
        clear h0
        go_upto_region 13 with (refine wpList_store_part rfl 63 (.tmp 67) (.tmp 66) rfl bl (j * 5) (lkC ⟨(0, 0), false, 0, 0⟩) rfl rfl 63 (lkR (upd lk x { lk x with behind := be }) cp) H0.out.lks info_lk HLE.out (lkC_one _) ?_)
        simp only [Act.put]
        refine wp_name (Pr := fun V => RmS w V b bm bl w.heap.size W.heap.size n cp (upd (upd lk x { lk x with behind := be }) j ⟨(0, 0), false, 0, 0⟩) (M) (c) #[.int .i64 k1, .int .i64 k2, .bool inn, .int .i64 x, .int .i64 be] (E1) (x) (E3 - 1)) (H0.out.rowL (congrArg List.toArray (lkR_part (upd lk x { lk x with behind := be }) cp j ⟨(0, 0), false, 0, 0⟩ (Nat.lt_of_lt_of_le hjn HQ6.out.cple)))) ?_
        clear H0 HLE c1
        rintro V6 h0
        have H0 := Lib.hid h0
        clear h0
        obtain ⟨sr, _⟩ := Ext.cells H0.out.row
        obtain ⟨sx, _⟩ := Ext.cells H0.out.xr
        obtain ⟨sg, _⟩ := Ext.cells H0.out.gr
        have s0 : ∀ z : Ext V6.heap.size V6, z.world.cell? ⟨b, 0, none⟩ = some (.map (some bm)) := fun z => sr z 0
        have s1 : ∀ z : Ext V6.heap.size V6, z.world.cell? ⟨w.heap.size, 0, none⟩ = some (.int .i64 k1) := fun z => sx z 0
        have s2 : ∀ z : Ext V6.heap.size V6, z.world.cell? ⟨w.heap.size, 1, none⟩ = some (.int .i64 k2) := fun z => sx z 1
        have s3 : ∀ z : Ext V6.heap.size V6, z.world.cell? ⟨W.heap.size, 0, none⟩ = some (.int .i64 (E1)) := fun z => sg z 0
        have s4 : ∀ z : Ext V6.heap.size V6, z.world.cell? ⟨W.heap.size, 1, none⟩ = some (.int .i64 (x)) := fun z => sg z 1
        have s5 : ∀ z : Ext V6.heap.size V6, z.world.cell? ⟨W.heap.size, 2, none⟩ = some (.int .i64 (E3 - 1)) := fun z => sg z 2
        clear sr sx sg
        refine wp_start (w := V6) ?_
        intro x0
        refine wp_region_ext_tail _ 7 (by kernel_rfl) (by kernel_rfl) (by kernel_rfl) ?_
        simp only [List.take_succ_cons, List.take_zero, List.drop_succ_cons, List.drop_zero]
        repeat (go_big_quiet_step (fail))
        refine wpQuiet_nil ?_
        rintro _ ⟨yw, rfl⟩
        clear s0 s1 s2 s3 s4 s5
        have H1 := Lib.hid (H0.out.ext yw.ok)
        have HMY := Lib.hid H1.out.m
        go_upto_region 14 with (at_mapUpdate; refine wpList_update_at rfl (.tmp 71) (.tmp 73) (.tmp 74) rfl keyEnc_ek Try.underlying58 HMY.out rfl (k1, k2) rfl (endV (E1, x, E3 - 1)) rfl ?_)
        refine wp_name (Pr := fun V => RmS w V b bm bl w.heap.size W.heap.size n cp (upd (upd lk x { lk x with behind := be }) j ⟨(0, 0), false, 0, 0⟩) (updL (k1, k2) (endV (E1, x, E3 - 1)) c M) (updC (k1, k2) c M) #[.int .i64 k1, .int .i64 k2, .bool inn, .int .i64 x, .int .i64 be] (E1) (x) (E3 - 1)) (H1.out.setM _ _) ?_
        clear H0 H1 HMY
        rintro V7 h0
        have H0 := Lib.hid h0
        have g2 := h0.gr.cell (i := 2) rfl
        clear h0
        by_cases h9 : E3 - 1 = 0
        · have h9' : (E3 - 1 == 0) = true := by simp [h9]
          have H9 := Lib.hid h9
          clear h9
          go_upto_region 15 with fail
          clear g2
          obtain ⟨sr, _⟩ := Ext.cells H0.out.row
          obtain ⟨sx, _⟩ := Ext.cells H0.out.xr
          have s0 : ∀ z : Ext V7.heap.size V7, z.world.cell? ⟨b, 0, none⟩ = some (.map (some bm)) := fun z => sr z 0
          have s1 : ∀ z : Ext V7.heap.size V7, z.world.cell? ⟨w.heap.size, 0, none⟩ = some (.int .i64 k1) := fun z => sx z 0
          have s2 : ∀ z : Ext V7.heap.size V7, z.world.cell? ⟨w.heap.size, 1, none⟩ = some (.int .i64 k2) := fun z => sx z 1
          clear sr sx
          refine wp_start (w := V7) ?_
          intro x0
          refine wp_region_ext_tail _ 6 (by kernel_rfl) (by kernel_rfl) (by kernel_rfl) ?_
          simp only [List.take_succ_cons, List.take_zero, List.drop_succ_cons, List.drop_zero]
          repeat (go_big_quiet_step (fail))
          refine wpQuiet_nil ?_
          rintro _ ⟨yw, rfl⟩
          clear s0 s1 s2
          have H1 := Lib.hid (H0.out.ext yw.ok)
          have hdel : (Builtin.delete_ #[ 58 , 28 ] 0 #[.map (some bm), .agg #[.int .i64 k1, .int .i64 k2]]).run Try.prog yw.world = .ok (.tuple #[]) (setB yw.world bm (mapObj ek (delL (k1, k2) (updL (k1, k2) (endV (E1, x, E3 - 1)) c M)) (updC (k1, k2) c M))) := run_delete_at keyEnc_ek Try.underlying58 H1.out.m (k1, k2) 0
          go_wp2_with (first | simp only [hdel] | fail)
          go_ret
          have okU := HQ6.out.ok.upd (k1, k2) (endV (E1, x, E3 - 1))
          refine ⟨rfl, rm_fin HQ6.out HAB.out (H1.out.setM _ _) ?_ (okU.del (k1, k2)) fun k' => ?_⟩
          · unfold dropL; dsimp only; rw [← HLL.out.1, ← HLL.out.2, if_neg HA.out, Int.toNat_natCast, if_pos HB.out]
          · rw [valL_del _ _ _ okU.keys, valL_upd, rm_none HAB.out HE.out.2.2 H9.out]
            by_cases hk : k' = (k1, k2)
            · rw [if_pos hk, if_pos hk]; rfl
            · rw [if_neg hk, if_neg hk, if_neg hk]
        · have h9' : (E3 - 1 == 0) = false := by simp [h9]
          go_wp2_with fail
          go_ret
          refine ⟨rfl, rm_fin HQ6.out HAB.out H0.out ?_ (HQ6.out.ok.upd _ _) fun k' => ?_⟩
          · unfold dropL; dsimp only; rw [← HLL.out.1, ← HLL.out.2, if_neg HA.out, Int.toNat_natCast, if_pos HB.out]
          · rw [valL_upd, rm_val HAB.out HE.out (g1 := E1) (g2 := x) (by rw [← HLL.out.1, if_neg HA.out]) (by rw [← HLL.out.2, if_pos HB.out, ← HLL.out.1]) h9]
      · obtain ⟨y, B', rfl⟩ : ∃ (y : Nat) (B' : List Nat), B = y :: B' := by
          cases B with
          | nil => exact absurd HLL.out.2 hB
          | cons y B' => exact ⟨y, B', rfl⟩
        obtain rfl : be = (y : Int) := HLL.out.2
        have hB' : ((y : Int) == -1) = false := by simp
        have yn : y < n := HQ6.out.rep.lt _ (mem_ofK.1 (show y ∈ ofK L (k1, k2) by rw [HAB.out]; simp))
        have HB := Lib.hid hB
        clear hB
        have x3 := H0.out.xr.cell (i := 3) rfl
        have x4 := H0.out.xr.cell (i := 4) rfl
        go_upto_region 10 with fail
        clear x3 x4
        have hxlt : (y : Int) < (n : Int) := by omega
        have hx0 : (0 : Int) ≤ (y : Int) := by omega
        have c1 := H0.out.row.cell (i := 1) rfl
        obtain ⟨sr, _⟩ := Ext.cells H0.out.row
        obtain ⟨sx, _⟩ := Ext.cells H0.out.xr
        have s0 : ∀ y : Ext V7.heap.size V7, y.world.cell? ⟨b, 1, none⟩ = some (.slice (some ⟨bl, 0, none⟩) n cp) := fun y => sr y 1
        have s3 : ∀ y : Ext V7.heap.size V7, y.world.cell? ⟨w.heap.size, 3, none⟩ = _ := fun y => sx y 3
        have s4 : ∀ y : Ext V7.heap.size V7, y.world.cell? ⟨w.heap.size, 4, none⟩ = _ := fun y => sx y 4
        clear sr sx c1
        refine wp_start (w := V7) ?_
        intro x0
        refine wp_region_ext_tail _ 10 (by kernel_rfl) (by kernel_rfl) (by kernel_rfl) ?_
        simp only [List.take_succ_cons, List.take_zero, List.drop_succ_cons, List.drop_zero]
        repeat (go_big_quiet_step (fail))
        refine wpQuiet_nil ?_
        rintro _ ⟨yw, rfl⟩
        have H1 := Lib.hid (H0.out.ext yw.ok)
        have cB := lk_cell0 (j := 3) H1.out.lks (Nat.lt_of_lt_of_le yn HQ6.out.cple) (by decide) rfl
        have fB := H1.out.lks.frozen (y * 5 + 3)
        clear s0 s3 s4 hxlt hx0
        go_upto_region 11 with fail
        refine wp_name (Pr := fun V => RmS w V b bm bl w.heap.size W.heap.size n cp (upd (upd lk x { lk x with behind := (y : Int) }) y { (upd lk x { lk x with behind := (y : Int) }) y with ahead := x }) (M) (c) #[.int .i64 k1, .int .i64 k2, .bool inn, .int .i64 x, .int .i64 y] (E1) (E2) (E3)) (H1.out.setL (lkR_set3 _ cp y (x) (Nat.lt_of_lt_of_le yn HQ6.out.cple))) ?_
        clear H0 H1 cB fB
        rintro V7b h0
        have H0 := Lib.hid h0
        clear h0
        have w1 := HW.out
        have gf := H0.out.gr.frozen 2
        have gc := H0.out.gr.cell (i := 2) rfl
        go_upto_region 12 with fail
        rw [w1]
        refine wp_name (Pr := fun V => RmS w V b bm bl w.heap.size W.heap.size n cp (upd (upd lk x { lk x with behind := (y : Int) }) y { (upd lk x { lk x with behind := (y : Int) }) y with ahead := x }) (M) (c) #[.int .i64 k1, .int .i64 k2, .bool inn, .int .i64 x, .int .i64 y] (E1) (E2) (E3 - 1)) (H0.out.setG rfl) ?_
        clear H0 gf gc w1
        rintro V5 h0
        have H0 := Lib.hid h0
        have c1 := h0.row.cell (i := 1) rfl
        have HLE := Lib.hid (show j * 5 + 5 ≤ (lkR (upd (upd lk x { lk x with behind := (y : Int) }) y { (upd lk x { lk x with behind := (y : Int) }) y with ahead := x }) cp).length by rw [lkR_len]; have := HQ6.out.cple; omega)
        clear h0
        go_upto_region 13 with (refine wpList_store_part rfl 63 (.tmp 67) (.tmp 66) rfl bl (j * 5) (lkC ⟨(0, 0), false, 0, 0⟩) rfl rfl 63 (lkR (upd (upd lk x { lk x with behind := (y : Int) }) y { (upd lk x { lk x with behind := (y : Int) }) y with ahead := x }) cp) H0.out.lks info_lk HLE.out (lkC_one _) ?_)
        simp only [Act.put]
        refine wp_name (Pr := fun V => RmS w V b bm bl w.heap.size W.heap.size n cp (upd (upd (upd lk x { lk x with behind := (y : Int) }) y { (upd lk x { lk x with behind := (y : Int) }) y with ahead := x }) j ⟨(0, 0), false, 0, 0⟩) (M) (c) #[.int .i64 k1, .int .i64 k2, .bool inn, .int .i64 x, .int .i64 y] (E1) (E2) (E3 - 1)) (H0.out.rowL (congrArg List.toArray (lkR_part (upd (upd lk x { lk x with behind := (y : Int) }) y { (upd lk x { lk x with behind := (y : Int) }) y with ahead := x }) cp j ⟨(0, 0), false, 0, 0⟩ (Nat.lt_of_lt_of_le hjn HQ6.out.cple)))) ?_
        clear H0 HLE c1
        rintro V6 h0
        have H0 := Lib.hid h0
        clear h0
        obtain ⟨sr, _⟩ := Ext.cells H0.out.row
        obtain ⟨sx, _⟩ := Ext.cells H0.out.xr
        obtain ⟨sg, _⟩ := Ext.cells H0.out.gr
        have s0 : ∀ z : Ext V6.heap.size V6, z.world.cell? ⟨b, 0, none⟩ = some (.map (some bm)) := fun z => sr z 0
        have s1 : ∀ z : Ext V6.heap.size V6, z.world.cell? ⟨w.heap.size, 0, none⟩ = some (.int .i64 k1) := fun z => sx z 0
        have s2 : ∀ z : Ext V6.heap.size V6, z.world.cell? ⟨w.heap.size, 1, none⟩ = some (.int .i64 k2) := fun z => sx z 1
        have s3 : ∀ z : Ext V6.heap.size V6, z.world.cell? ⟨W.heap.size, 0, none⟩ = some (.int .i64 (E1)) := fun z => sg z 0
        have s4 : ∀ z : Ext V6.heap.size V6, z.world.cell? ⟨W.heap.size, 1, none⟩ = some (.int .i64 (E2)) := fun z => sg z 1
        have s5 : ∀ z : Ext V6.heap.size V6, z.world.cell? ⟨W.heap.size, 2, none⟩ = some (.int .i64 (E3 - 1)) := fun z => sg z 2
        clear sr sx sg
        refine wp_start (w := V6) ?_
        intro x0
        refine wp_region_ext_tail _ 7 (by kernel_rfl) (by kernel_rfl) (by kernel_rfl) ?_
        simp only [List.take_succ_cons, List.take_zero, List.drop_succ_cons, List.drop_zero]
        repeat (go_big_quiet_step (fail))
        refine wpQuiet_nil ?_
        rintro _ ⟨yw, rfl⟩
        clear s0 s1 s2 s3 s4 s5
        have H1 := Lib.hid (H0.out.ext yw.ok)
        have HMY := Lib.hid H1.out.m
        go_upto_region 14 with (at_mapUpdate; refine wpList_update_at rfl (.tmp 71) (.tmp 73) (.tmp 74) rfl keyEnc_ek Try.underlying58 HMY.out rfl (k1, k2) rfl (endV (E1, E2, E3 - 1)) rfl ?_)
        refine wp_name (Pr := fun V => RmS w V b bm bl w.heap.size W.heap.size n cp (upd (upd (upd lk x { lk x with behind := (y : Int) }) y { (upd lk x { lk x with behind := (y : Int) }) y with ahead := x }) j ⟨(0, 0), false, 0, 0⟩) (updL (k1, k2) (endV (E1, E2, E3 - 1)) c M) (updC (k1, k2) c M) #[.int .i64 k1, .int .i64 k2, .bool inn, .int .i64 x, .int .i64 y] (E1) (E2) (E3 - 1)) (H1.out.setM _ _) ?_
        clear H0 H1 HMY
        rintro V7 h0
        have H0 := Lib.hid h0
        have g2 := h0.gr.cell (i := 2) rfl
        clear h0
        by_cases h9 : E3 - 1 = 0
        · have h9' : (E3 - 1 == 0) = true := by simp [h9]
          have H9 := Lib.hid h9
          clear h9
          go_upto_region 15 with fail
          clear g2
          obtain ⟨sr, _⟩ := Ext.cells H0.out.row
          obtain ⟨sx, _⟩ := Ext.cells H0.out.xr
          have s0 : ∀ z : Ext V7.heap.size V7, z.world.cell? ⟨b, 0, none⟩ = some (.map (some bm)) := fun z => sr z 0
          have s1 : ∀ z : Ext V7.heap.size V7, z.world.cell? ⟨w.heap.size, 0, none⟩ = some (.int .i64 k1) := fun z => sx z 0
          have s2 : ∀ z : Ext V7.heap.size V7, z.world.cell? ⟨w.heap.size, 1, none⟩ = some (.int .i64 k2) := fun z => sx z 1
          clear sr sx
          refine wp_start (w := V7) ?_
          intro x0
          refine wp_region_ext_tail _ 6 (by kernel_rfl) (by kernel_rfl) (by kernel_rfl) ?_
          simp only [List.take_succ_cons, List.take_zero, List.drop_succ_cons, List.drop_zero]
          repeat (go_big_quiet_step (fail))
          refine wpQuiet_nil ?_
          rintro _ ⟨yw, rfl⟩
          clear s0 s1 s2
          have H1 := Lib.hid (H0.out.ext yw.ok)
          have hdel : (Builtin.delete_ #[ 58 , 28 ] 0 #[.map (some bm), .agg #[.int .i64 k1, .int .i64 k2]]).run Try.prog yw.world = .ok (.tuple #[]) (setB yw.world bm (mapObj ek (delL (k1, k2) (updL (k1, k2) (endV (E1, E2, E3 - 1)) c M)) (updC (k1, k2) c M))) := run_delete_at keyEnc_ek Try.underlying58 H1.out.m (k1, k2) 0
          go_wp2_with (first | simp only [hdel] | fail)
          go_ret
          have okU := HQ6.out.ok.upd (k1, k2) (endV (E1, E2, E3 - 1))
          refine ⟨rfl, rm_fin HQ6.out HAB.out (H1.out.setM _ _) ?_ (okU.del (k1, k2)) fun k' => ?_⟩
          · unfold dropL; dsimp only; rw [← HLL.out.1, ← HLL.out.2, if_neg HA.out, Int.toNat_natCast, if_neg HB.out, Int.toNat_natCast]
          · rw [valL_del _ _ _ okU.keys, valL_upd, rm_none HAB.out HE.out.2.2 H9.out]
            by_cases hk : k' = (k1, k2)
            · rw [if_pos hk, if_pos hk]; rfl
            · rw [if_neg hk, if_neg hk, if_neg hk]
        · have h9' : (E3 - 1 == 0) = false := by simp [h9]
          go_wp2_with fail
          go_ret
          refine ⟨rfl, rm_fin HQ6.out HAB.out H0.out ?_ (HQ6.out.ok.upd _ _) fun k' => ?_⟩
          · unfold dropL; dsimp only; rw [← HLL.out.1, ← HLL.out.2, if_neg HA.out, Int.toNat_natCast, if_neg HB.out, Int.toNat_natCast]
          · rw [valL_upd, rm_val HAB.out HE.out (g1 := E1) (g2 := E2) (by rw [← HLL.out.1, if_neg HA.out]) (by rw [← HLL.out.2, if_neg HB.out]) h9]
end Go.Proofs.Ytelnembjcgkiaaa
