/- Chains at keys of two numbers: Push. -/
import Derived.Test.YtelnembjcgkiaaaChD
import Derived.Test.YtelnembjcgkiaaaStorePart
import Derived.Test.YtelnembjcgkiaaaTail
import Derived.Test.YtelnembjcgkiaaaMapRange
namespace Go.Proofs.Ytelnembjcgkiaaa
open Go.RowKit
set_option linter.unusedVariables false
set_option linter.unusedSimpArgs false

theorem lkR_part (lk : Nat → Lk (Int × Int)) (n j : Nat) (X : Lk (Int × Int)) (hj : j < n) : (lkR lk n).take (j * 5) ++ lkC X ++ (lkR lk n).drop (j * 5 + 5) = lkR (upd lk j X) n := by
  have h := grpL_part (f := fun i => lkC (lk i)) n (fun i => lkC_len _) (lkC X) (lkC_len X) hj
  rw [lkC_len] at h
  have e : upd (fun i => lkC (lk i)) j (lkC X) = fun i => lkC (upd lk j X i) := by
    funext i
    unfold upd
    split <;> rfl
  rw [e] at h
  exact h
theorem not_in {n : Nat} {L : List ((Int × Int) × Nat)} {lk : Nat → Lk (Int × Int)} {hd : Int × Int → Option (Int × Int × Int)} (h : Rep (0, 0) n L lk hd) {j : Nat} (hin : (lk j).inn = false) : ∀ p ∈ L, p.2 ≠ j := by
  rintro ⟨k, i⟩ hp rfl
  have hm : i ∈ ofK L k := mem_ofK.2 hp
  obtain ⟨A, B, hAB⟩ := List.append_of_mem hm
  have := h.link k A i B hAB
  rw [this] at hin
  cases hin
theorem push_fin {w0 W' : World} {b bm bl n : Nat} {L : List ((Int × Int) × Nat)} {lk : Nat → Lk (Int × Int)} {M : List (Ent (Int × Int))} {c cp : Nat} (q : ChIn w0 b bm bl n cp L lk M c) {k1 k2 : Int} {j : Nat} (hj : j < n) (hin : (lk j).inn = false)
    (hR : RowAt W' b #[.map (some bm), .slice (some ⟨bl, 0, none⟩) n cp] 61) (hM : MapAt W' bm ek (updL (k1, k2) (endV (headI (ofK L (k1, k2) ++ [j]), (j : Int), ((ofK L (k1, k2)).length : Int) + 1)) c M) (updC (k1, k2) c M))
    (hL : RowAt W' bl (lkR (pushL lk (k1, k2) j (lastI (ofK L (k1, k2)))) cp).toArray 63) : ChAt W' b bm bl n (L ++ [((k1, k2), j)]) (pushL lk (k1, k2) j (lastI (ofK L (k1, k2)))) := by
  have h := q.rep.push (k1, k2) j hj (not_in q.rep hin)
  have hh := h.hd
  have e := funext hh
  refine ⟨_, _, cp, { row := hR, m := hM, ok := q.ok.upd _ _, lks := hL, cple := q.cple, rep := e ▸ h, v := fun k' => ?_, ne1 := q.ne1, ne2 := q.ne2, ne3 := q.ne3 }⟩
  rw [valL_upd, ← hh k']
  by_cases hk : k' = (k1, k2)
  · rw [if_pos hk, if_pos hk]; rfl
  · rw [if_neg hk, if_neg hk, q.v]
theorem lkR_set (lk : Nat → Lk (Int × Int)) (n X : Nat) (v : Int) (hX : X < n) : ((lkR lk n).toArray.setIfInBounds (X * 5 + 4) (.int .i64 v)) = (lkR (upd lk X { lk X with behind := v }) n).toArray := by
  have h := grpL_set (f := fun i => lkC (lk i)) n (fun i => lkC_len _) (.int .i64 v) hX (show 4 < 5 by decide)
  have e : upd (fun i => lkC (lk i)) X ((lkC (lk X)).set 4 (.int .i64 v)) = fun i => lkC (upd lk X { lk X with behind := v } i) := by
    funext i
    unfold upd
    split <;> rfl
  rw [e] at h
  have h2 : (lkR lk n).set (X * 5 + 4) (.int .i64 v) = lkR (upd lk X { lk X with behind := v }) n := h
  rw [← h2]
  simp
theorem headI_snoc {F : List Nat} (h : F ≠ []) (j : Nat) : headI (F ++ [j]) = headI F := by
  cases F with
  | nil => exact absurd rfl h
  | cons x r => rfl
theorem len_le {n : Nat} {L : List ((Int × Int) × Nat)} {lk : Nat → Lk (Int × Int)} {hd : Int × Int → Option (Int × Int × Int)} (h : Rep (0, 0) n L lk hd) (k : Int × Int) : (ofK L k).length ≤ n := by
  have := nodup_le (m := List.range n) (ofK_nodup h.nd k) fun x hx => List.mem_range.2 (h.lt _ (mem_ofK.1 hx))
  rwa [List.length_range] at this
theorem pushL_far (lk : Nat → Lk (Int × Int)) (k : Int × Int) (j X : Nat) : pushL lk k j (X : Int) = upd (upd lk j ⟨k, true, (X : Int), -1⟩) X { upd lk j ⟨k, true, (X : Int), -1⟩ X with behind := (j : Int) } := by
  unfold pushL
  rw [if_neg (by omega), Int.toNat_natCast]
theorem lkR_len (lk : Nat → Lk (Int × Int)) (n : Nat) : (lkR lk n).length = n * 5 := grpL_length n (fun i => lkC_len _)
theorem info_lk : (Try.prog.info? 63).map (·.size) = some 5 := by kernel_rfl
theorem lkC_one (X : Lk (Int × Int)) : ∀ v ∈ lkC X, v.oneCell' = true := by
  intro v hv
  simp only [lkC, List.mem_cons, List.not_mem_nil, or_false] at hv
  rcases hv with rfl | rfl | rfl | rfl | rfl <;> rfl
set_option maxHeartbeats 8000000 in
set_option maxRecDepth 100000 in
theorem push_any (b bm bl n : Nat) (L : List ((Int × Int) × Nat)) (lk : Nat → Lk (Int × Int)) (w : World) (hA : ChAt w b bm bl n L lk) (hn : n ≤ 4096) (k1 k2 : Int) (j : Nat) (hj : j < n) (hin : (lk j).inn = false) :
    Calls Try.prog 8 #[.pointer (some ⟨b, 0, none⟩), .agg #[.int .i64 k1, .int .i64 k2], .int .i64 j] w fun e w' => e = .returned (.bool true) ∧ ChAt w' b bm bl n (L ++ [((k1, k2), j)]) (pushL lk (k1, k2) j (lastI (ofK L (k1, k2)))) ∧ Only (S2 bm bl) w w' := by
  obtain ⟨M, c, cp, q⟩ := hA
  have c1 : w.cell? ⟨b, 1, none⟩ = some (.slice (some ⟨bl, 0, none⟩) n cp) := q.row.cell (i := 1) rfl
  have c2 : w.cell? ⟨bl, j * 5 + 2, none⟩ = some (.bool false) := lk_cell (j := 2) q hj (by decide) (by rw [← hin]; rfl)
  have hbl : b < w.heap.size := q.row.lt
  have hbll : bl < w.heap.size := q.lks.lt
  have d1 : decide ((j : Int) < 0) = false := dec_f (by omega)
  have d2 : decide ((n : Int) ≤ (j : Int)) = false := dec_f (by omega)
  go_enter Try.func8, Try.ntmps8
  go_upto_region 3 with fail
  refine wp_name (Pr := fun W => ChIn W b bm bl n cp L lk M c ∧ RowAt W w.heap.size #[.int .i64 k1, .int .i64 k2] 28 ∧ Below w.heap.size w W) ⟨q.ext (below_new (Below.refl _ _) _), RowAt.new w _ _, below_new (Below.refl _ _) _⟩ ?_
  clear q c1 c2 d1 d2
  rintro W ⟨q, hX, hB⟩
  have HQ := Lib.hid q
  have HX := Lib.hid hX
  have HB := Lib.hid hB
  obtain ⟨hkR, _⟩ := Ext.cells q.row
  obtain ⟨hkX, _⟩ := Ext.cells hX
  have s0 : ∀ y : Ext W.heap.size W, y.world.cell? ⟨b, 0, none⟩ = some (.map (some bm)) := fun y => hkR y 0
  have s1 : ∀ y : Ext W.heap.size W, y.world.cell? ⟨w.heap.size, 0, none⟩ = some (.int .i64 k1) := fun y => hkX y 0
  have s2 : ∀ y : Ext W.heap.size W, y.world.cell? ⟨w.heap.size, 1, none⟩ = some (.int .i64 k2) := fun y => hkX y 1
  have HV := Lib.hid (val_e1 q.v (k1, k2))
  have HV2 := Lib.hid (val_some q.v (k1, k2))
  have m0 := q.m.drew
  have m1 := (q.m.alloc (.cells #[.int .i64 0, .int .i64 0, .int .i64 0] 65 (0, 0))).drew
  have r0 := run_lookup_at keyEnc_ek Try.underlying58 (z := .agg #[.int .i64 0, .int .i64 0, .int .i64 0]) (by kernel_rfl) m0 (k1, k2) true
  have r1 := run_lookup_at keyEnc_ek Try.underlying58 (z := .agg #[.int .i64 0, .int .i64 0, .int .i64 0]) (by kernel_rfl) m1 (k1, k2) true
  simp only [if_true] at r0 r1
  rw [HV.out, HV2.out] at r0 r1
  unfold ek at r0 r1
  obtain ⟨E1, hE1⟩ : ∃ E, (e1 (ofK L (k1, k2))).1 = E := ⟨_, rfl⟩
  obtain ⟨E2, hE2⟩ : ∃ E, (e1 (ofK L (k1, k2))).2.1 = E := ⟨_, rfl⟩
  obtain ⟨E3, hE3⟩ : ∃ E, (e1 (ofK L (k1, k2))).2.2 = E := ⟨_, rfl⟩
  obtain ⟨t, ht⟩ : ∃ t, (ofK L (k1, k2)).isEmpty = t := ⟨_, rfl⟩
  rw [hE1, hE2, hE3, ht] at r0 r1
  have HE := Lib.hid (And.intro hE1 (And.intro hE2 hE3))
  have HT := Lib.hid ht
  have HS := Lib.hid (fun w' (h : Below W.heap.size W w') => (show w'.cell? ⟨b, 0, none⟩ = some (.map (some bm)) ∧ w'.cell? ⟨w.heap.size, 0, none⟩ = some (.int .i64 k1) ∧ w'.cell? ⟨w.heap.size, 1, none⟩ = some (.int .i64 k2) from ⟨s0 ⟨_, h⟩, s1 ⟨_, h⟩, s2 ⟨_, h⟩⟩))
  clear q hX hB hkR hkX m0 m1 hE1 hE2 hE3 ht s0 s1 s2
  go_region_held3 (fun w' => w'.cell? ⟨b, 0, none⟩ = some (.map (some bm)) ∧ w'.cell? ⟨w.heap.size, 0, none⟩ = some (.int .i64 k1) ∧ w'.cell? ⟨w.heap.size, 1, none⟩ = some (.int .i64 k2))
    (first | exact HS.out _ (Below.refl _ _).drew | exact HS.out _ (below_new (Below.refl _ _) _).drew)
    (fail)
  all_goals
    dsimp only [Exit.then]
    refine k_name (Pr := fun W' => RowAt W' W.heap.size #[.int .i64 E1, .int .i64 E2, .int .i64 E3] 65 ∧ Below W.heap.size W W') ⟨(RowAt.new W _ _).drew, (below_new (Below.refl _ _) _).drew⟩ ?_
    rintro W6 ⟨h6, hB6⟩
    have hlt3 : b < W.heap.size ∧ bm < W.heap.size ∧ bl < W.heap.size := ⟨HQ.out.row.lt, HQ.out.m.lt, HQ.out.lks.lt⟩
    have hxW : w.heap.size < W.heap.size := HX.out.lt
    have hwW : w.heap.size ≤ W.heap.size := Nat.le_of_lt hxW
    have HQ6 := Lib.hid (HQ.out.ext hB6)
    have HX6 := Lib.hid (RowAt.ext HX.out hB6)
    have HB6 := Lib.hid (below_then HB.out hB6)
    have H6 := Lib.hid h6
    have g0 := h6.cell (i := 0) rfl
    have g1 := h6.cell (i := 1) rfl
    have g2 := h6.cell (i := 2) rfl
    have gf0 := h6.frozen 0
    have gf1 := h6.frozen 1
    have gf2 := h6.frozen 2
    clear h6 hB6 HQ HX HB HS HV HV2 r0 r1
    go_at_K
    cases t with
    | true =>
      go_upto_region 6 with fail
      clear g0 g1 g2 gf0 gf1 gf2
      refine wp_name (Pr := fun W8 => ChIn W8 b bm bl n cp L lk M c ∧ RowAt W8 w.heap.size #[.int .i64 k1, .int .i64 k2] 28 ∧ RowAt W8 W.heap.size #[.int .i64 j, .int .i64 (-1), .int .i64 0] 65 ∧ Below w.heap.size w W8) ⟨{ HQ6.out with row := RowAt.but HQ6.out.row ((((But.refl W.heap.size W6).set 0 _).set 1 _).set 2 _) (by omega), m := MapAt.but HQ6.out.m ((((But.refl W.heap.size W6).set 0 _).set 1 _).set 2 _) (by omega), lks := RowAt.but HQ6.out.lks ((((But.refl W.heap.size W6).set 0 _).set 1 _).set 2 _) (by omega) }, RowAt.but HX6.out ((((But.refl W.heap.size W6).set 0 _).set 1 _).set 2 _) (by omega), ((H6.out.set 0 _).set 1 _).set 2 _, below_set (below_set (below_set HB6.out hwW _) hwW _) hwW _⟩ ?_
      clear HQ6 HX6 HB6 H6
      rintro W8 ⟨q, hX, hG, hB⟩
      have HQ := Lib.hid q
      have HX := Lib.hid hX
      have HG := Lib.hid hG
      have HB := Lib.hid hB
      obtain ⟨hkR, _⟩ := Ext.cells q.row
      obtain ⟨hkX, _⟩ := Ext.cells hX
      obtain ⟨hkG, _⟩ := Ext.cells hG
      have s0 : ∀ y : Ext W8.heap.size W8, y.world.cell? ⟨b, 0, none⟩ = some (.map (some bm)) := fun y => hkR y 0
      have s1 : ∀ y : Ext W8.heap.size W8, y.world.cell? ⟨b, 1, none⟩ = some (.slice (some ⟨bl, 0, none⟩) n cp) := fun y => hkR y 1
      have sx0 : ∀ y : Ext W8.heap.size W8, y.world.cell? ⟨w.heap.size, 0, none⟩ = some (.int .i64 k1) := fun y => hkX y 0
      have sx1 : ∀ y : Ext W8.heap.size W8, y.world.cell? ⟨w.heap.size, 1, none⟩ = some (.int .i64 k2) := fun y => hkX y 1
      have sg1 : ∀ y : Ext W8.heap.size W8, y.world.cell? ⟨W.heap.size, 1, none⟩ = some (.int .i64 (-1)) := fun y => hkG y 1
      clear q hX hG hB hkR hkX hkG
      refine wp_start (w := W8) ?_
      intro x0
      refine wp_region_ext_tail _ 10 (by kernel_rfl) (by kernel_rfl) (by kernel_rfl) ?_
      simp only [List.take_succ_cons, List.take_zero, List.drop_succ_cons, List.drop_zero]
      repeat (go_big_quiet_step (fail))
      refine wpQuiet_nil ?_
      rintro _ ⟨y, rfl⟩
      have HLK := Lib.hid (RowAt.ext HQ.out.lks y.ok)
      have HLE := Lib.hid (show j * 5 + 5 ≤ (lkR lk cp).length by rw [lkR_len]; have := HQ.out.cple; omega)
      refine wpList_store_part rfl 63 (.tmp 56) (.tmp 55) rfl bl (j * 5) (lkC ⟨(k1, k2), true, (-1), -1⟩) rfl rfl 63 (lkR lk cp) HLK.out info_lk HLE.out (lkC_one _) ?_
      rw [show (lkC ⟨(k1, k2), true, (-1), -1⟩).length = 5 from rfl, lkR_part lk cp j _ (Nat.lt_of_lt_of_le hj HQ.out.cple)]
      go_upto_region 7 with fail
      refine wp_name (Pr := fun W9 => RowAt W9 b #[.map (some bm), .slice (some ⟨bl, 0, none⟩) n cp] 61 ∧ MapAt W9 bm ek M c ∧ RowAt W9 bl (lkR (upd lk j ⟨(k1, k2), true, (-1), -1⟩) cp).toArray 63 ∧ RowAt W9 w.heap.size #[.int .i64 k1, .int .i64 k2] 28 ∧ RowAt W9 W.heap.size #[.int .i64 j, .int .i64 (-1), .int .i64 0] 65 ∧ Only (S2 bm bl) w W9)
        ⟨RowAt.but (RowAt.ext HQ.out.row y.ok) ((But.refl bl _).setRow _) HQ.out.ne2, (HQ.out.m.ext y.ok).setRow _ HQ.out.ne3, HLK.out.setRow _, RowAt.but (RowAt.ext HX.out y.ok) ((But.refl bl _).setRow _) (by omega), RowAt.but (RowAt.ext HG.out y.ok) ((But.refl bl _).setRow _) (by omega), (only_of (below_then HB.out y.ok) _).setRow (Or.inr rfl) _⟩ ?_
      rintro W9 ⟨hR, hM, hL9, hX, hG, hO⟩
      have HR := Lib.hid hR
      have HM := Lib.hid hM
      have HL9 := Lib.hid hL9
      have HX9 := Lib.hid hX
      have HG9 := Lib.hid hG
      have HO := Lib.hid hO
      have sg1' := hG.cell (i := 1) rfl
      clear hR hM hL9 hX hG hO s0 s1 sx0 sx1 sg1 HLK HLE
      go_upto_region 9 with fail
      obtain ⟨hkR, _⟩ := Ext.cells HR.out
      obtain ⟨hkX, _⟩ := Ext.cells HX9.out
      obtain ⟨hkG, _⟩ := Ext.cells HG9.out
      have s0 : ∀ y : Ext W9.heap.size W9, y.world.cell? ⟨b, 0, none⟩ = some (.map (some bm)) := fun y => hkR y 0
      have sx0 : ∀ y : Ext W9.heap.size W9, y.world.cell? ⟨w.heap.size, 0, none⟩ = some (.int .i64 k1) := fun y => hkX y 0
      have sx1 : ∀ y : Ext W9.heap.size W9, y.world.cell? ⟨w.heap.size, 1, none⟩ = some (.int .i64 k2) := fun y => hkX y 1
      have sg0 : ∀ y : Ext W9.heap.size W9, y.world.cell? ⟨W.heap.size, 0, none⟩ = some (.int .i64 (j : Int)) := fun y => hkG y 0
      have sg2 : ∀ y : Ext W9.heap.size W9, y.world.cell? ⟨W.heap.size, 2, none⟩ = some (.int .i64 0) := fun y => hkG y 2
      have w1 : wrap64 (0 + 1) = 1 := by unfold wrap64; omega
      clear hkR hkX hkG sg1'
      refine wp_start (w := W9) ?_
      intro x9
      refine wp_region_ext_tail _ 12 (by kernel_rfl) (by kernel_rfl) (by kernel_rfl) ?_
      simp only [List.take_succ_cons, List.take_zero, List.drop_succ_cons, List.drop_zero]
      repeat (go_big_quiet_step (fail))
      refine wpQuiet_nil ?_
      rintro _ ⟨y9, rfl⟩
      have h0 : ofK L (k1, k2) = [] := by have := HT.out; simpa using this
      have HMY := Lib.hid (HM.out.ext y9.ok)
      go_wp2_with (at_mapUpdate; refine wpList_update_at rfl (.tmp 72) (.tmp 73) (.tmp 80) rfl keyEnc_ek Try.underlying58 HMY.out rfl (k1, k2) rfl (endV ((j : Int), (j : Int), 1)) rfl ?_)
      go_ret
      refine ⟨rfl, push_fin HQ.out hj hin ((RowAt.ext HR.out y9.ok).setB _ HQ.out.ne1) ?_ ?_, ((HO.out.ext y9.ok).setB (Or.inl rfl) _)⟩
      · rw [h0]
        exact HMY.out.set _ _
      · rw [h0]
        exact (RowAt.ext HL9.out y9.ok).setB _ (Ne.symm HQ.out.ne3)
    | false =>
      go_upto_region 6 with fail
      clear g0 g1 g2 gf0 gf1 gf2
      refine wp_name (Pr := fun W8 => ChIn W8 b bm bl n cp L lk M c ∧ RowAt W8 w.heap.size #[.int .i64 k1, .int .i64 k2] 28 ∧ RowAt W8 W.heap.size #[.int .i64 E1, .int .i64 E2, .int .i64 E3] 65 ∧ Below w.heap.size w W8) ⟨HQ6.out, HX6.out, H6.out, HB6.out⟩ ?_
      clear HQ6 HX6 HB6 H6
      rintro W8 ⟨q, hX, hG, hB⟩
      have HQ := Lib.hid q
      have HX := Lib.hid hX
      have HG := Lib.hid hG
      have HB := Lib.hid hB
      obtain ⟨hkR, _⟩ := Ext.cells q.row
      obtain ⟨hkX, _⟩ := Ext.cells hX
      obtain ⟨hkG, _⟩ := Ext.cells hG
      have s0 : ∀ y : Ext W8.heap.size W8, y.world.cell? ⟨b, 0, none⟩ = some (.map (some bm)) := fun y => hkR y 0
      have s1 : ∀ y : Ext W8.heap.size W8, y.world.cell? ⟨b, 1, none⟩ = some (.slice (some ⟨bl, 0, none⟩) n cp) := fun y => hkR y 1
      have sx0 : ∀ y : Ext W8.heap.size W8, y.world.cell? ⟨w.heap.size, 0, none⟩ = some (.int .i64 k1) := fun y => hkX y 0
      have sx1 : ∀ y : Ext W8.heap.size W8, y.world.cell? ⟨w.heap.size, 1, none⟩ = some (.int .i64 k2) := fun y => hkX y 1
      have sg1 : ∀ y : Ext W8.heap.size W8, y.world.cell? ⟨W.heap.size, 1, none⟩ = some (.int .i64 E2) := fun y => hkG y 1
      clear q hX hG hB hkR hkX hkG
      refine wp_start (w := W8) ?_
      intro x0
      refine wp_region_ext_tail _ 10 (by kernel_rfl) (by kernel_rfl) (by kernel_rfl) ?_
      simp only [List.take_succ_cons, List.take_zero, List.drop_succ_cons, List.drop_zero]
      repeat (go_big_quiet_step (fail))
      refine wpQuiet_nil ?_
      rintro _ ⟨y, rfl⟩
      have HLK := Lib.hid (RowAt.ext HQ.out.lks y.ok)
      have HLE := Lib.hid (show j * 5 + 5 ≤ (lkR lk cp).length by rw [lkR_len]; have := HQ.out.cple; omega)
      refine wpList_store_part rfl 63 (.tmp 56) (.tmp 55) rfl bl (j * 5) (lkC ⟨(k1, k2), true, E2, -1⟩) rfl rfl 63 (lkR lk cp) HLK.out info_lk HLE.out (lkC_one _) ?_
      rw [show (lkC ⟨(k1, k2), true, E2, -1⟩).length = 5 from rfl, lkR_part lk cp j _ (Nat.lt_of_lt_of_le hj HQ.out.cple)]
      go_upto_region 7 with fail
      refine wp_name (Pr := fun W9 => RowAt W9 b #[.map (some bm), .slice (some ⟨bl, 0, none⟩) n cp] 61 ∧ MapAt W9 bm ek M c ∧ RowAt W9 bl (lkR (upd lk j ⟨(k1, k2), true, E2, -1⟩) cp).toArray 63 ∧ RowAt W9 w.heap.size #[.int .i64 k1, .int .i64 k2] 28 ∧ RowAt W9 W.heap.size #[.int .i64 E1, .int .i64 E2, .int .i64 E3] 65 ∧ Only (S2 bm bl) w W9)
        ⟨RowAt.but (RowAt.ext HQ.out.row y.ok) ((But.refl bl _).setRow _) HQ.out.ne2, (HQ.out.m.ext y.ok).setRow _ HQ.out.ne3, HLK.out.setRow _, RowAt.but (RowAt.ext HX.out y.ok) ((But.refl bl _).setRow _) (by omega), RowAt.but (RowAt.ext HG.out y.ok) ((But.refl bl _).setRow _) (by omega), (only_of (below_then HB.out y.ok) _).setRow (Or.inr rfl) _⟩ ?_
      rintro W9 ⟨hR, hM, hL9, hX, hG, hO⟩
      have HR := Lib.hid hR
      have HM := Lib.hid hM
      have HL9 := Lib.hid hL9
      have HX9 := Lib.hid hX
      have HG9 := Lib.hid hG
      have HO := Lib.hid hO
      have sg1' := hG.cell (i := 1) rfl
      clear hR hM hL9 hX hG hO s0 s1 sx0 sx1 sg1 HLK HLE
      have hne : ofK L (k1, k2) ≠ [] := by have := HT.out; simpa using this
      obtain ⟨A, X, hAX⟩ := (snoc_cases (ofK L (k1, k2))).resolve_left hne
      have hlast : lastI (ofK L (k1, k2)) = (X : Int) := by rw [hAX, lastI_snoc]
      have hXm : ((k1, k2), X) ∈ L := mem_ofK.1 (by rw [hAX]; simp)
      have hXn : X < n := HQ.out.rep.lt _ hXm
      have hXj : X ≠ j := not_in HQ.out.rep hin _ hXm
      have hv1 : e1 (ofK L (k1, k2)) = (headI (ofK L (k1, k2)), lastI (ofK L (k1, k2)), ((ofK L (k1, k2)).length : Int)) := by
        unfold e1 headV
        rw [if_neg hne]; rfl
      have hE1 : E1 = headI (ofK L (k1, k2)) := by rw [← HE.out.1, hv1]
      have hE2 : E2 = (X : Int) := by rw [← HE.out.2.1, hv1]; exact hlast
      have hE3 : E3 = ((ofK L (k1, k2)).length : Int) := by rw [← HE.out.2.2, hv1]
      have hXne : ((X : Int) == -1) = false := by simp
      have HF := Lib.hid (And.intro hE1 (And.intro hE3 (And.intro hlast hXj)))
      have HNE := Lib.hid hne
      clear HE hv1 hAX hXm hlast hXj hE1 hE3 hne
      subst hE2
      go_upto_region 8 with fail
      clear sg1'
      obtain ⟨hkR, _⟩ := Ext.cells HR.out
      obtain ⟨hkG, _⟩ := Ext.cells HG9.out
      have s0 : ∀ y : Ext W9.heap.size W9, y.world.cell? ⟨b, 1, none⟩ = some (.slice (some ⟨bl, 0, none⟩) n cp) := fun y => hkR y 1
      have sg1 : ∀ y : Ext W9.heap.size W9, y.world.cell? ⟨W.heap.size, 1, none⟩ = some (.int .i64 (X : Int)) := fun y => hkG y 1
      have hXlt : (X : Int) < (n : Int) := by omega
      have hX0 : (0 : Int) ≤ (X : Int) := by omega
      clear hkR hkG
      refine wp_start (w := W9) ?_
      intro x8
      refine wp_region_ext_tail _ 9 (by kernel_rfl) (by kernel_rfl) (by kernel_rfl) ?_
      simp only [List.take_succ_cons, List.take_zero, List.drop_succ_cons, List.drop_zero]
      repeat (go_big_quiet_step (fail))
      refine wpQuiet_nil ?_
      rintro _ ⟨y8, rfl⟩
      clear s0 sg1
      have HRL := Lib.hid (RowAt.ext HL9.out y8.ok)
      have cB := lk_cell0 (j := 4) HRL.out (Nat.lt_of_lt_of_le hXn HQ.out.cple) (by decide) rfl
      have fB := HRL.out.frozen (X * 5 + 4)
      go_upto_region 9 with fail
      refine wp_name (Pr := fun W9 => RowAt W9 b #[.map (some bm), .slice (some ⟨bl, 0, none⟩) n cp] 61 ∧ MapAt W9 bm ek M c ∧ RowAt W9 bl (lkR (pushL lk (k1, k2) j (X : Int)) cp).toArray 63 ∧ RowAt W9 w.heap.size #[.int .i64 k1, .int .i64 k2] 28 ∧ RowAt W9 W.heap.size #[.int .i64 E1, .int .i64 (X : Int), .int .i64 E3] 65 ∧ Only (S2 bm bl) w W9)
        ⟨RowAt.but (RowAt.ext HR.out y8.ok) ((But.refl bl _).set _ _) HQ.out.ne2, (HM.out.ext y8.ok).setCell _ _ HQ.out.ne3, by rw [pushL_far, ← lkR_set _ cp X j (Nat.lt_of_lt_of_le hXn HQ.out.cple)]; exact HRL.out.set (X * 5 + 4) (.int .i64 j), RowAt.but (RowAt.ext HX9.out y8.ok) ((But.refl bl _).set _ _) (by omega), RowAt.but (RowAt.ext HG9.out y8.ok) ((But.refl bl _).set _ _) (by omega), (HO.out.ext y8.ok).set (Or.inr rfl) _ _⟩ ?_
      clear HR HM HL9 HX9 HG9 HO HRL cB fB
      rintro W10 ⟨hR, hM, hL9, hX, hG, hO⟩
      have HR := Lib.hid hR
      have HM := Lib.hid hM
      have HL9 := Lib.hid hL9
      have HO := Lib.hid hO
      obtain ⟨hkR, _⟩ := Ext.cells hR
      obtain ⟨hkX, _⟩ := Ext.cells hX
      obtain ⟨hkG, _⟩ := Ext.cells hG
      have s0 : ∀ y : Ext W10.heap.size W10, y.world.cell? ⟨b, 0, none⟩ = some (.map (some bm)) := fun y => hkR y 0
      have sx0 : ∀ y : Ext W10.heap.size W10, y.world.cell? ⟨w.heap.size, 0, none⟩ = some (.int .i64 k1) := fun y => hkX y 0
      have sx1 : ∀ y : Ext W10.heap.size W10, y.world.cell? ⟨w.heap.size, 1, none⟩ = some (.int .i64 k2) := fun y => hkX y 1
      have sg0 : ∀ y : Ext W10.heap.size W10, y.world.cell? ⟨W.heap.size, 0, none⟩ = some (.int .i64 E1) := fun y => hkG y 0
      have sg2 : ∀ y : Ext W10.heap.size W10, y.world.cell? ⟨W.heap.size, 2, none⟩ = some (.int .i64 E3) := fun y => hkG y 2
      have hle := len_le HQ.out.rep (k1, k2)
      have w1 : wrap64 (E3 + 1) = E3 + 1 := by rw [HF.out.2.1]; unfold wrap64; omega
      clear hR hM hL9 hX hG hO hkR hkX hkG hle
      refine wp_start (w := W10) ?_
      intro x9
      refine wp_region_ext_tail _ 12 (by kernel_rfl) (by kernel_rfl) (by kernel_rfl) ?_
      simp only [List.take_succ_cons, List.take_zero, List.drop_succ_cons, List.drop_zero]
      repeat (go_big_quiet_step (fail))
      refine wpQuiet_nil ?_
      rintro _ ⟨y9, rfl⟩
      have HMY := Lib.hid (HM.out.ext y9.ok)
      go_wp2_with (at_mapUpdate; refine wpList_update_at rfl (.tmp 72) (.tmp 73) (.tmp 80) rfl keyEnc_ek Try.underlying58 HMY.out rfl (k1, k2) rfl (endV (E1, (j : Int), E3 + 1)) rfl ?_)
      go_ret
      refine ⟨rfl, push_fin HQ.out hj hin ((RowAt.ext HR.out y9.ok).setB _ HQ.out.ne1) ?_ ?_, ((HO.out.ext y9.ok).setB (Or.inl rfl) _)⟩
      · rw [headI_snoc HNE.out, ← HF.out.1, ← HF.out.2.1]
        exact HMY.out.set _ _
      · rw [HF.out.2.2.1]
        exact (RowAt.ext HL9.out y9.ok).setB _ (Ne.symm HQ.out.ne3)
end Go.Proofs.Ytelnembjcgkiaaa
