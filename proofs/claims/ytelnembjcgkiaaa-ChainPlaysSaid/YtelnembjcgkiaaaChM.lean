/- Are chains and the document's the same. -/
import Derived.Test.YtelnembjcgkiaaaChL
namespace Go.Proofs.Ytelnembjcgkiaaa
open Go.RowKit
set_option linter.unusedVariables false
set_option linter.unusedSimpArgs false

theorem find_in {n : Nat} {L : List ((Int × Int) × Nat)} {lk : Nat → Lk (Int × Int)} {hd : Int × Int → Option (Int × Int × Int)} (h : Rep (0, 0) n L lk hd) {i r : Int} (hf : FindP L i r) :
    (r = -1 ∧ inB n lk i = false) ∨ ∃ t : Nat, ∃ ht : t < L.length, r = (t : Int) ∧ (L[t].2 : Int) = i ∧ inB n lk i = true ∧ keyZ n lk i = L[t].1 := by
  rcases hf with ⟨rfl, hno⟩ | ⟨t, rfl, ht, hi⟩
  · refine .inl ⟨rfl, ?_⟩
    by_cases h0 : 0 ≤ i ∧ i < n
    · obtain ⟨j, rfl⟩ := Int.eq_ofNat_of_zero_le h0.1
      rw [inB_nat (by omega), h.out j fun p hp e => hno p hp (by rw [e])]
    · unfold inB; rw [if_neg h0]
  · refine .inr ⟨t, ht, rfl, hi, ?_⟩
    have hm := List.getElem_mem ht
    have hlt := h.lt _ hm
    obtain ⟨A, B, hAB⟩ := List.append_of_mem (mem_ofK.2 (show (L[t].1, L[t].2) ∈ L from hm))
    have hl := h.link _ A _ B hAB
    have hb : inB n lk i = true := by rw [← hi, inB_nat hlt, hl]
    refine ⟨hb, ?_⟩
    unfold keyZ
    rw [if_pos hb, ← hi, Int.toNat_natCast, hl]
theorem next_eq {n : Nat} {L : List ((Int × Int) × Nat)} {lk : Nat → Lk (Int × Int)} {hd : Int × Int → Option (Int × Int × Int)} (h : Rep (0, 0) n L lk hd) {i r : Int} (hf : NextP L i r) : r = nextI n lk i := by
  rcases hf with ⟨rfl, hno⟩ | ⟨t, ht, hi, rfl⟩
  · have hb : inB n lk i = false := by
      by_cases h0 : 0 ≤ i ∧ i < n
      · obtain ⟨j, rfl⟩ := Int.eq_ofNat_of_zero_le h0.1
        rw [inB_nat (by omega), h.out j fun p hp e => hno p hp (by rw [e])]
      · unfold inB; rw [if_neg h0]
    unfold nextI
    rw [if_neg (by rw [hb]; simp)]
  · have hm := List.getElem_mem ht
    have hlt := h.lt _ hm
    have hAB : ofK L L[t].1 = ofK (L.take t) L[t].1 ++ L[t].2 :: ofK (L.drop (t + 1)) L[t].1 := by
      have e : L = L.take t ++ L.drop t := (List.take_append_drop t L).symm
      have h1 : ofK L L[t].1 = ofK (L.take t) L[t].1 ++ ofK (L.drop t) L[t].1 := by rw [← ofK_app, ← e]
      rw [h1, ofK_at ht, if_pos rfl]
      rfl
    have hl := h.link _ _ _ _ hAB
    have hb : inB n lk i = true := by rw [← hi, inB_nat hlt, hl]
    unfold nextI
    rw [if_pos hb, ← hi, Int.toNat_natCast, hl]
set_option maxHeartbeats 8000000 in
set_option maxRecDepth 100000 in
theorem alike_any (b bm bl n : Nat) (L : List ((Int × Int) × Nat)) (lk : Nat → Lk (Int × Int)) (w : World) (hA : ChAt w b bm bl n L lk) (hn : n ≤ 4096) (v : Value) (ok : Nat → Prop) (hv : Sl w v L.length (fl L) ok) (k i k1 k2 : Int) :
    Calls Try.prog 24 #[.pointer (some ⟨b, 0, none⟩), v, .agg #[.int .i64 k, .int .i64 i, .int .i64 k1, .int .i64 k2]] w fun e w' => e = .returned (.bool true) ∧ Below w.heap.size w w' := by
  have hrep : ∃ hd, Rep (0, 0) n L lk hd := by obtain ⟨M, c, cp, q⟩ := hA; exact ⟨_, q.rep⟩
  have HR := Lib.hid hrep
  have hL6 : L.length ≤ 1000000 := by obtain ⟨hd, q⟩ := hrep; have := L_le q; omega
  have hL4 : L.length ≤ 4096 := by obtain ⟨hd, q⟩ := hrep; have := L_le q; omega
  obtain ⟨F, hF⟩ : ∃ F, ofK L (k1, k2) = F := ⟨_, rfl⟩
  have hFl : F.length ≤ 4096 := by obtain ⟨hd, q⟩ := hrep; have := len_le q (k1, k2); rw [hF] at this; omega
  have HA := Lib.hid hA
  have HV := Lib.hid hv
  have HF := Lib.hid hF
  have HL4 := Lib.hid hL4
  obtain ⟨va, vc, rfl, -⟩ := hv
  clear hA hrep hF hL4
  go_enter Try.func24, Try.ntmps24
  go_upto_region 1 with fail
  refine wp_name (Pr := fun V => RowAt V w.heap.size #[.int .i64 k, .int .i64 i, .int .i64 k1, .int .i64 k2] 30 ∧ Below w.heap.size w V) ⟨RowAt.new w _ _, below_new (Below.refl _ _) _⟩ ?_
  rintro V ⟨hX, hB⟩
  have HX := Lib.hid hX
  have HB := Lib.hid hB
  have x1 := hX.cell (i := 1) rfl
  have x2 := hX.cell (i := 2) rfl
  have x3 := hX.cell (i := 3) rfl
  have HRA := Lib.hid (rall_any L _ ok V (HV.out.ext hB) hL6 k1 k2)
  clear hX hB
  go_upto_region 2 with (go_at_call 22; refine HRA.out.mono ?_; rintro e w1 ⟨u, rfl, hu, hb1⟩)
  rw [HF.out] at hu
  obtain ⟨pa, pc, rfl, hu⟩ := hu.len (n := F.length) (zs_len F)
  have HU := Lib.hid hu
  have HB1 := Lib.hid (below_then HB.out hb1)
  have HX1 := Lib.hid (RowAt.ext HX.out hb1)
  have HV1 := Lib.hid ((HV.out.ext HB.out).ext hb1)
  have x1 := HX1.out.cell (i := 1) rfl
  have hfi : (F = [] ∧ F.length = 0) ∨ ∃ x r, F = x :: r ∧ ∃ p : Addr, pa = some p ∧ w1.cell? p = some (.int .i64 (headI F)) := by
    cases hFc : F with
    | nil => exact .inl ⟨rfl, rfl⟩
    | cons x r =>
      obtain ⟨a', c', e1, h4⟩ := Lst.sl hu
      rw [zs_len] at e1 h4
      obtain ⟨p, q1, -, q4⟩ := h4 (by rw [hFc]; simp)
      injection e1 with e1
      refine .inr ⟨x, r, rfl, p, e1.trans q1, ?_⟩
      exact q4 0 _ (by rw [hFc]; rfl)
  have HFD := Lib.hid (rfind_any L _ ok w1 HV1.out hL6 i)
  have HHL := Lib.hid hFl
  clear hb1 HRA HB HX hu
  have hhead : ∃ f : Int, headI F = f := ⟨_, rfl⟩
  obtain ⟨f, hf⟩ := hhead
  have HH := Lib.hid hf
  rw [hf] at hfi
  rcases hfi with ⟨hF0, hF1⟩ | ⟨fx, fr, hF0, p, rfl, hpc⟩
  · have f1 : f = -1 := by rw [← hf, hF0]; rfl
    have d1 : decide ((0 : Int) < (F.length : Int)) = false := dec_f (by omega)
    have d1' : decide (0 < F.length) = false := dec_f (by omega)
    have HF1 := Lib.hid f1
    clear hF0 hF1 f1 hf
    go_upto_region 6 with (go_at_call 20; refine HFD.out.mono ?_; rintro e w2 ⟨r, rfl, hfp, rfl⟩)
    rw [show (-1 : Int) = f from HF1.out.symm]
    clear d1 d1'
    have HNF := Lib.hid (show (r = -1 ∧ inB n lk i = false) ∨ ∃ t : Nat, ∃ ht : t < L.length, r = (t : Int) ∧ (L[t].2 : Int) = i ∧ inB n lk i = true ∧ keyZ n lk i = L[t].1 by obtain ⟨hd, q⟩ := HR.out; exact find_in q hfp)
    have HKY := Lib.hid (key_all b bm bl n L lk w1 (ChAt.ext HA.out HB1.out) hn i)
    clear hfp
    obtain ⟨inn, hinn⟩ : ∃ x, inB n lk i = x := ⟨_, rfl⟩
    obtain ⟨⟨z1, z2⟩, hz⟩ : ∃ z, keyZ n lk i = z := ⟨_, rfl⟩
    rw [hinn, hz] at HKY HNF
    unfold ek at HKY
    have HIN := Lib.hid hinn
    clear hinn
    go_upto_region 7 with (go_at_call 12; refine HKY.out.mono ?_; rintro e w2 ⟨rfl, hb2⟩)
    refine wp_name (Pr := fun V2 => RowAt V2 w2.heap.size #[.int .i64 z1, .int .i64 z2] 28 ∧ Below w1.heap.size w1 V2) ⟨RowAt.new w2 _ _, below_new hb2 _⟩ ?_
    clear hb2 HKY
    rintro V2 ⟨hK, hV2⟩
    have HB2 := Lib.hid (below_then HB1.out hV2)
    have HX2 := Lib.hid (RowAt.ext HX1.out hV2)
    have HV2 := Lib.hid (HV1.out.ext hV2)
    have HU2 := Lib.hid (HU.out.ext hV2)
    obtain ⟨hkK, _⟩ := Ext.cells hK
    have y0 : ∀ y : Ext V2.heap.size V2, y.world.cell? ⟨w2.heap.size, 0, none⟩ = some (.int .i64 z1) := fun y => hkK y 0
    have y1 : ∀ y : Ext V2.heap.size V2, y.world.cell? ⟨w2.heap.size, 1, none⟩ = some (.int .i64 z2) := fun y => hkK y 1
    clear hK hV2 HB1 HX1 HV1 HU hkK HFD
    rcases HNF.out with ⟨rfl, rfl⟩ | ⟨t, ht, rfl, hti, rfl, hkz⟩
    · have hz0 : (z1, z2) = (0, 0) := by rw [← hz]; unfold keyZ; rw [HIN.out]; rfl
      have hq := neq_pair z1 z2 0 0
      rw [decide_eq_true hz0] at hq
      clear HNF hz hz0
      refine wp_start (w := V2) ?_
      intro x0
      refine wp_region_ext _ (by kernel_rfl) (by kernel_rfl) ?_
      repeat (go_big_quiet_step (fail))
      refine wpQuiet_nil ?_
      rintro _ ⟨y, rfl⟩
      clear y0 y1 hq
      dsimp only [Exit.then]
      refine k_name (Pr := fun Z => RowAt Z w.heap.size #[.int .i64 k, .int .i64 i, .int .i64 k1, .int .i64 k2] 30 ∧ Lst .i64 Z (.slice pa F.length pc) (zs F) (fun g => V.heap.size ≤ g) ∧ Sl Z (.slice va L.length vc) L.length (fl L) ok ∧ Below w.heap.size w Z) ⟨RowAt.ext HX2.out y.ok, HU2.out.ext y.ok, HV2.out.ext y.ok, below_then HB2.out y.ok⟩ ?_
      clear HB2 HX2 HV2 HU2
      rintro V3 ⟨hX, hU, hV, hB⟩
      have HU := Lib.hid hU
      have HV3 := Lib.hid hV
      have HBB := Lib.hid hB
      have HS := Lib.hid (fun X (hX' : Below V3.heap.size V3 X) => (show X.cell? ⟨w.heap.size, 1, none⟩ = some (.int .i64 i) ∧ X.cell? ⟨w.heap.size, 2, none⟩ = some (.int .i64 k1) ∧ X.cell? ⟨w.heap.size, 3, none⟩ = some (.int .i64 k2) from ⟨(RowAt.ext hX hX').cell (i := 1) rfl, (RowAt.ext hX hX').cell (i := 2) rfl, (RowAt.ext hX hX').cell (i := 3) rfl⟩))
      have HCH := Lib.hid (fun X (hX' : Below V3.heap.size V3 X) => ChAt.ext HA.out (below_then hB hX'))
      have B0 := Lib.hid (Below.refl V3.heap.size V3)
      have B1 := Lib.hid ((Below.refl V3.heap.size V3).drew)
      have hln : ((F.length : Int) == (F.length : Int)) = true := by simp
      have hff : (f == f) = true := by simp
      have hll : ((L.length : Int) == (L.length : Int)) = true := by simp
      have hnx : ∀ r, NextP L i r → r = nextI n lk i := by obtain ⟨hd, q⟩ := HR.out; exact fun r h => next_eq q h
      have HNX := Lib.hid hnx
      obtain ⟨nx, hnxx⟩ : ∃ x, nextI n lk i = x := ⟨_, rfl⟩
      have HNN := Lib.hid hnxx
      have hnn : (nx == nx) = true := by simp
      have HRN : Hid (∀ X, Below V3.heap.size V3 X → Calls Try.prog 44 #[.slice va L.length vc, .int .i64 i] X fun e w' => e = .returned (.int .i64 nx) ∧ Below X.heap.size X w') := Lib.hid fun X hX' => (rnext_any L _ ok X (hV.ext hX') hL6 i).mono (by rintro e w' ⟨r, rfl, hr, hb⟩; exact ⟨by rw [hnx _ hr, hnxx], hb⟩)
      clear hX hU hV hB hnx hnxx
      go_at_K
      go_upto_region 9 with fail
      go_region_held3 (fun X => X.cell? ⟨w.heap.size, 1, none⟩ = some (.int .i64 i) ∧ X.cell? ⟨w.heap.size, 2, none⟩ = some (.int .i64 k1) ∧ X.cell? ⟨w.heap.size, 3, none⟩ = some (.int .i64 k2))
        (first | exact HS.out _ B8.out | exact HS.out _ B7.out | exact HS.out _ B6.out | exact HS.out _ B5.out | exact HS.out _ B4.out | exact HS.out _ B3.out | exact HS.out _ B2.out | exact HS.out _ B1.out | exact HS.out _ B0.out)
        (first
          | (go_at_call 16; refine (all_any n hn b bm bl k1 k2 L lk _ (HCH.out _ B1.out)).mono ?_; rintro e w5 ⟨u5, rfl, hu5, hb5⟩; rw [HF.out] at hu5; have HU5 := Lib.hid hu5; have B2 := Lib.hid (below_then B1.out hb5); clear hu5 hb5)
          | (go_at_call 18; refine (same_any (F.map fun x : Nat => (x : Int)) (zs F) _ _ _ _ _ HU5.out (HU.out.ext B2.out) (by simp; have := HHL.out; omega) (by rw [zs_len]; have := HHL.out; omega)).mono ?_; rintro e w6 ⟨rfl, hb6⟩; rw [same_t (L := F.map fun x : Nat => (x : Int)) (M := zs F) rfl]; have B3 := Lib.hid (below_then B2.out hb6); clear hb6)
          | (go_at_call 13; refine (len_any b bm bl n L lk _ (HCH.out _ B3.out) (k1, k2)).mono ?_; rintro e w7 ⟨rfl, hb7⟩; rw [HF.out]; have B4 := Lib.hid (below_then B3.out hb7); clear hb7)
          | (go_at_call 10; refine (first_any b bm bl n L lk _ (HCH.out _ B4.out) (k1, k2)).mono ?_; rintro e w8 ⟨rfl, hb8⟩; rw [HF.out, HH.out]; have B5 := Lib.hid (below_then B4.out hb8); clear hb8)
          | (go_at_call 11; refine (next_any b bm bl n L lk _ (HCH.out _ B5.out) hn i).mono ?_; rintro e w9 ⟨rfl, rfl⟩; rw [HNN.out])
          | (go_at_call 44; refine (HRN.out _ B5.out).mono ?_; rintro e w10 ⟨rfl, hb10⟩; have B7 := Lib.hid (below_then B5.out hb10); clear hb10)
          | (go_at_call 14; refine (total_any b bm bl n L lk _ (HCH.out _ B7.out) HL4.out).mono ?_; rintro e w11 ⟨rfl, hb11⟩; have B8 := Lib.hid (below_then B7.out hb11); clear hb11))
      dsimp only [Exit.then]
      go_at_K
      go_wp2_with fail
      go_ret
      exact ⟨rfl, below_then HBB.out B8.out⟩
    · have hkk : (z1, z2) = L[t].1 := hkz
      obtain ⟨a', c', e1, e2, e3, h4⟩ := HV2.out
      obtain ⟨g, q1, q2, -, q4⟩ := h4 (by omega)
      injection e1 with e1 e5 e6
      subst e6
      obtain rfl : va = some ⟨g, 0, none⟩ := e1.trans q1
      have s0 : ∀ y : Ext V2.heap.size V2, y.world.cell? ⟨g, t * 3, none⟩ = some (.int .i64 z1) := fun y => (y.ok.cell (p := ⟨g, t * 3, none⟩) q2).trans (q4 (t * 3 + 0) _ (fl_get ht rfl (c := 0) (by show some (Value.int .i64 L[t].1.1) = _; rw [← hkk])))
      have s1 : ∀ y : Ext V2.heap.size V2, y.world.cell? ⟨g, t * 3 + 1, none⟩ = some (.int .i64 z2) := fun y => (y.ok.cell (p := ⟨g, t * 3 + 1, none⟩) q2).trans (q4 _ _ (fl_get ht rfl (c := 1) (by show some (Value.int .i64 L[t].1.2) = _; rw [← hkk])))
      have hq := neq_pair z1 z2 z1 z2
      rw [decide_eq_true rfl] at hq
      have htl : (t : Int) < (L.length : Int) := by omega
      have d0 : decide (0 ≤ (t : Int)) = true := dec_t (by omega)
      clear HNF hz hkz hkk q1 q2 q4 h4 e1 e2 e3 hti
      refine wp_start (w := V2) ?_
      intro x0
      refine wp_region_ext _ (by kernel_rfl) (by kernel_rfl) ?_
      repeat (go_big_quiet_step (fail))
      refine wpQuiet_nil ?_
      rintro _ ⟨y, rfl⟩
      clear y0 y1 s0 s1 hq htl d0
      dsimp only [Exit.then]
      refine k_name (Pr := fun Z => RowAt Z w.heap.size #[.int .i64 k, .int .i64 i, .int .i64 k1, .int .i64 k2] 30 ∧ Lst .i64 Z (.slice pa F.length pc) (zs F) (fun g => V.heap.size ≤ g) ∧ Sl Z (.slice (some ⟨g, 0, none⟩) L.length vc) L.length (fl L) ok ∧ Below w.heap.size w Z) ⟨RowAt.ext HX2.out y.ok, HU2.out.ext y.ok, HV2.out.ext y.ok, below_then HB2.out y.ok⟩ ?_
      clear HB2 HX2 HV2 HU2
      rintro V3 ⟨hX, hU, hV, hB⟩
      have HU := Lib.hid hU
      have HV3 := Lib.hid hV
      have HBB := Lib.hid hB
      have HS := Lib.hid (fun X (hX' : Below V3.heap.size V3 X) => (show X.cell? ⟨w.heap.size, 1, none⟩ = some (.int .i64 i) ∧ X.cell? ⟨w.heap.size, 2, none⟩ = some (.int .i64 k1) ∧ X.cell? ⟨w.heap.size, 3, none⟩ = some (.int .i64 k2) from ⟨(RowAt.ext hX hX').cell (i := 1) rfl, (RowAt.ext hX hX').cell (i := 2) rfl, (RowAt.ext hX hX').cell (i := 3) rfl⟩))
      have HCH := Lib.hid (fun X (hX' : Below V3.heap.size V3 X) => ChAt.ext HA.out (below_then hB hX'))
      have B0 := Lib.hid (Below.refl V3.heap.size V3)
      have B1 := Lib.hid ((Below.refl V3.heap.size V3).drew)
      have hln : ((F.length : Int) == (F.length : Int)) = true := by simp
      have hff : (f == f) = true := by simp
      have hll : ((L.length : Int) == (L.length : Int)) = true := by simp
      have hnx : ∀ r, NextP L i r → r = nextI n lk i := by obtain ⟨hd, q⟩ := HR.out; exact fun r h => next_eq q h
      have HNX := Lib.hid hnx
      obtain ⟨nx, hnxx⟩ : ∃ x, nextI n lk i = x := ⟨_, rfl⟩
      have HNN := Lib.hid hnxx
      have hnn : (nx == nx) = true := by simp
      have HRN : Hid (∀ X, Below V3.heap.size V3 X → Calls Try.prog 44 #[.slice (some ⟨g, 0, none⟩) L.length vc, .int .i64 i] X fun e w' => e = .returned (.int .i64 nx) ∧ Below X.heap.size X w') := Lib.hid fun X hX' => (rnext_any L _ ok X (hV.ext hX') hL6 i).mono (by rintro e w' ⟨r, rfl, hr, hb⟩; exact ⟨by rw [hnx _ hr, hnxx], hb⟩)
      clear hX hU hV hB hnx hnxx
      go_at_K
      go_upto_region 9 with fail
      go_region_held3 (fun X => X.cell? ⟨w.heap.size, 1, none⟩ = some (.int .i64 i) ∧ X.cell? ⟨w.heap.size, 2, none⟩ = some (.int .i64 k1) ∧ X.cell? ⟨w.heap.size, 3, none⟩ = some (.int .i64 k2))
        (first | exact HS.out _ B8.out | exact HS.out _ B7.out | exact HS.out _ B6.out | exact HS.out _ B5.out | exact HS.out _ B4.out | exact HS.out _ B3.out | exact HS.out _ B2.out | exact HS.out _ B1.out | exact HS.out _ B0.out)
        (first
          | (go_at_call 16; refine (all_any n hn b bm bl k1 k2 L lk _ (HCH.out _ B1.out)).mono ?_; rintro e w5 ⟨u5, rfl, hu5, hb5⟩; rw [HF.out] at hu5; have HU5 := Lib.hid hu5; have B2 := Lib.hid (below_then B1.out hb5); clear hu5 hb5)
          | (go_at_call 18; refine (same_any (F.map fun x : Nat => (x : Int)) (zs F) _ _ _ _ _ HU5.out (HU.out.ext B2.out) (by simp; have := HHL.out; omega) (by rw [zs_len]; have := HHL.out; omega)).mono ?_; rintro e w6 ⟨rfl, hb6⟩; rw [same_t (L := F.map fun x : Nat => (x : Int)) (M := zs F) rfl]; have B3 := Lib.hid (below_then B2.out hb6); clear hb6)
          | (go_at_call 13; refine (len_any b bm bl n L lk _ (HCH.out _ B3.out) (k1, k2)).mono ?_; rintro e w7 ⟨rfl, hb7⟩; rw [HF.out]; have B4 := Lib.hid (below_then B3.out hb7); clear hb7)
          | (go_at_call 10; refine (first_any b bm bl n L lk _ (HCH.out _ B4.out) (k1, k2)).mono ?_; rintro e w8 ⟨rfl, hb8⟩; rw [HF.out, HH.out]; have B5 := Lib.hid (below_then B4.out hb8); clear hb8)
          | (go_at_call 11; refine (next_any b bm bl n L lk _ (HCH.out _ B5.out) hn i).mono ?_; rintro e w9 ⟨rfl, rfl⟩; rw [HNN.out])
          | (go_at_call 44; refine (HRN.out _ B5.out).mono ?_; rintro e w10 ⟨rfl, hb10⟩; have B7 := Lib.hid (below_then B5.out hb10); clear hb10)
          | (go_at_call 14; refine (total_any b bm bl n L lk _ (HCH.out _ B7.out) HL4.out).mono ?_; rintro e w11 ⟨rfl, hb11⟩; have B8 := Lib.hid (below_then B7.out hb11); clear hb11))
      dsimp only [Exit.then]
      go_at_K
      go_wp2_with fail
      go_ret
      exact ⟨rfl, below_then HBB.out B8.out⟩
  · have d1 : decide ((0 : Int) < (F.length : Int)) = true := dec_t (by rw [hF0]; simp <;> omega)
    have d1' : decide (0 < F.length) = true := dec_t (by rw [hF0]; simp)
    have hf0 : (0 : Int) < (F.length : Int) := by rw [hF0]; simp <;> omega
    clear hF0 hf
    go_upto_region 6 with (go_at_call 20; refine HFD.out.mono ?_; rintro e w2 ⟨r, rfl, hfp, rfl⟩)
    clear d1 d1' hf0 hpc
    have HNF := Lib.hid (show (r = -1 ∧ inB n lk i = false) ∨ ∃ t : Nat, ∃ ht : t < L.length, r = (t : Int) ∧ (L[t].2 : Int) = i ∧ inB n lk i = true ∧ keyZ n lk i = L[t].1 by obtain ⟨hd, q⟩ := HR.out; exact find_in q hfp)
    have HKY := Lib.hid (key_all b bm bl n L lk w1 (ChAt.ext HA.out HB1.out) hn i)
    clear hfp
    obtain ⟨inn, hinn⟩ : ∃ x, inB n lk i = x := ⟨_, rfl⟩
    obtain ⟨⟨z1, z2⟩, hz⟩ : ∃ z, keyZ n lk i = z := ⟨_, rfl⟩
    rw [hinn, hz] at HKY HNF
    unfold ek at HKY
    have HIN := Lib.hid hinn
    clear hinn
    go_upto_region 7 with (go_at_call 12; refine HKY.out.mono ?_; rintro e w2 ⟨rfl, hb2⟩)
    refine wp_name (Pr := fun V2 => RowAt V2 w2.heap.size #[.int .i64 z1, .int .i64 z2] 28 ∧ Below w1.heap.size w1 V2) ⟨RowAt.new w2 _ _, below_new hb2 _⟩ ?_
    clear hb2 HKY
    rintro V2 ⟨hK, hV2⟩
    have HB2 := Lib.hid (below_then HB1.out hV2)
    have HX2 := Lib.hid (RowAt.ext HX1.out hV2)
    have HV2 := Lib.hid (HV1.out.ext hV2)
    have HU2 := Lib.hid (HU.out.ext hV2)
    obtain ⟨hkK, _⟩ := Ext.cells hK
    have y0 : ∀ y : Ext V2.heap.size V2, y.world.cell? ⟨w2.heap.size, 0, none⟩ = some (.int .i64 z1) := fun y => hkK y 0
    have y1 : ∀ y : Ext V2.heap.size V2, y.world.cell? ⟨w2.heap.size, 1, none⟩ = some (.int .i64 z2) := fun y => hkK y 1
    clear hK hV2 HB1 HX1 HV1 HU hkK HFD
    rcases HNF.out with ⟨rfl, rfl⟩ | ⟨t, ht, rfl, hti, rfl, hkz⟩
    · have hz0 : (z1, z2) = (0, 0) := by rw [← hz]; unfold keyZ; rw [HIN.out]; rfl
      have hq := neq_pair z1 z2 0 0
      rw [decide_eq_true hz0] at hq
      clear HNF hz hz0
      refine wp_start (w := V2) ?_
      intro x0
      refine wp_region_ext _ (by kernel_rfl) (by kernel_rfl) ?_
      repeat (go_big_quiet_step (fail))
      refine wpQuiet_nil ?_
      rintro _ ⟨y, rfl⟩
      clear y0 y1 hq
      dsimp only [Exit.then]
      refine k_name (Pr := fun Z => RowAt Z w.heap.size #[.int .i64 k, .int .i64 i, .int .i64 k1, .int .i64 k2] 30 ∧ Lst .i64 Z (.slice (some p) F.length pc) (zs F) (fun g => V.heap.size ≤ g) ∧ Sl Z (.slice va L.length vc) L.length (fl L) ok ∧ Below w.heap.size w Z) ⟨RowAt.ext HX2.out y.ok, HU2.out.ext y.ok, HV2.out.ext y.ok, below_then HB2.out y.ok⟩ ?_
      clear HB2 HX2 HV2 HU2
      rintro V3 ⟨hX, hU, hV, hB⟩
      have HU := Lib.hid hU
      have HV3 := Lib.hid hV
      have HBB := Lib.hid hB
      have HS := Lib.hid (fun X (hX' : Below V3.heap.size V3 X) => (show X.cell? ⟨w.heap.size, 1, none⟩ = some (.int .i64 i) ∧ X.cell? ⟨w.heap.size, 2, none⟩ = some (.int .i64 k1) ∧ X.cell? ⟨w.heap.size, 3, none⟩ = some (.int .i64 k2) from ⟨(RowAt.ext hX hX').cell (i := 1) rfl, (RowAt.ext hX hX').cell (i := 2) rfl, (RowAt.ext hX hX').cell (i := 3) rfl⟩))
      have HCH := Lib.hid (fun X (hX' : Below V3.heap.size V3 X) => ChAt.ext HA.out (below_then hB hX'))
      have B0 := Lib.hid (Below.refl V3.heap.size V3)
      have B1 := Lib.hid ((Below.refl V3.heap.size V3).drew)
      have hln : ((F.length : Int) == (F.length : Int)) = true := by simp
      have hff : (f == f) = true := by simp
      have hll : ((L.length : Int) == (L.length : Int)) = true := by simp
      have hnx : ∀ r, NextP L i r → r = nextI n lk i := by obtain ⟨hd, q⟩ := HR.out; exact fun r h => next_eq q h
      have HNX := Lib.hid hnx
      obtain ⟨nx, hnxx⟩ : ∃ x, nextI n lk i = x := ⟨_, rfl⟩
      have HNN := Lib.hid hnxx
      have hnn : (nx == nx) = true := by simp
      have HRN : Hid (∀ X, Below V3.heap.size V3 X → Calls Try.prog 44 #[.slice va L.length vc, .int .i64 i] X fun e w' => e = .returned (.int .i64 nx) ∧ Below X.heap.size X w') := Lib.hid fun X hX' => (rnext_any L _ ok X (hV.ext hX') hL6 i).mono (by rintro e w' ⟨r, rfl, hr, hb⟩; exact ⟨by rw [hnx _ hr, hnxx], hb⟩)
      clear hX hU hV hB hnx hnxx
      go_at_K
      go_upto_region 9 with fail
      go_region_held3 (fun X => X.cell? ⟨w.heap.size, 1, none⟩ = some (.int .i64 i) ∧ X.cell? ⟨w.heap.size, 2, none⟩ = some (.int .i64 k1) ∧ X.cell? ⟨w.heap.size, 3, none⟩ = some (.int .i64 k2))
        (first | exact HS.out _ B8.out | exact HS.out _ B7.out | exact HS.out _ B6.out | exact HS.out _ B5.out | exact HS.out _ B4.out | exact HS.out _ B3.out | exact HS.out _ B2.out | exact HS.out _ B1.out | exact HS.out _ B0.out)
        (first
          | (go_at_call 16; refine (all_any n hn b bm bl k1 k2 L lk _ (HCH.out _ B1.out)).mono ?_; rintro e w5 ⟨u5, rfl, hu5, hb5⟩; rw [HF.out] at hu5; have HU5 := Lib.hid hu5; have B2 := Lib.hid (below_then B1.out hb5); clear hu5 hb5)
          | (go_at_call 18; refine (same_any (F.map fun x : Nat => (x : Int)) (zs F) _ _ _ _ _ HU5.out (HU.out.ext B2.out) (by simp; have := HHL.out; omega) (by rw [zs_len]; have := HHL.out; omega)).mono ?_; rintro e w6 ⟨rfl, hb6⟩; rw [same_t (L := F.map fun x : Nat => (x : Int)) (M := zs F) rfl]; have B3 := Lib.hid (below_then B2.out hb6); clear hb6)
          | (go_at_call 13; refine (len_any b bm bl n L lk _ (HCH.out _ B3.out) (k1, k2)).mono ?_; rintro e w7 ⟨rfl, hb7⟩; rw [HF.out]; have B4 := Lib.hid (below_then B3.out hb7); clear hb7)
          | (go_at_call 10; refine (first_any b bm bl n L lk _ (HCH.out _ B4.out) (k1, k2)).mono ?_; rintro e w8 ⟨rfl, hb8⟩; rw [HF.out, HH.out]; have B5 := Lib.hid (below_then B4.out hb8); clear hb8)
          | (go_at_call 11; refine (next_any b bm bl n L lk _ (HCH.out _ B5.out) hn i).mono ?_; rintro e w9 ⟨rfl, rfl⟩; rw [HNN.out])
          | (go_at_call 44; refine (HRN.out _ B5.out).mono ?_; rintro e w10 ⟨rfl, hb10⟩; have B7 := Lib.hid (below_then B5.out hb10); clear hb10)
          | (go_at_call 14; refine (total_any b bm bl n L lk _ (HCH.out _ B7.out) HL4.out).mono ?_; rintro e w11 ⟨rfl, hb11⟩; have B8 := Lib.hid (below_then B7.out hb11); clear hb11))
      dsimp only [Exit.then]
      go_at_K
      go_wp2_with fail
      go_ret
      exact ⟨rfl, below_then HBB.out B8.out⟩
    · have hkk : (z1, z2) = L[t].1 := hkz
      obtain ⟨a', c', e1, e2, e3, h4⟩ := HV2.out
      obtain ⟨g, q1, q2, -, q4⟩ := h4 (by omega)
      injection e1 with e1 e5 e6
      subst e6
      obtain rfl : va = some ⟨g, 0, none⟩ := e1.trans q1
      have s0 : ∀ y : Ext V2.heap.size V2, y.world.cell? ⟨g, t * 3, none⟩ = some (.int .i64 z1) := fun y => (y.ok.cell (p := ⟨g, t * 3, none⟩) q2).trans (q4 (t * 3 + 0) _ (fl_get ht rfl (c := 0) (by show some (Value.int .i64 L[t].1.1) = _; rw [← hkk])))
      have s1 : ∀ y : Ext V2.heap.size V2, y.world.cell? ⟨g, t * 3 + 1, none⟩ = some (.int .i64 z2) := fun y => (y.ok.cell (p := ⟨g, t * 3 + 1, none⟩) q2).trans (q4 _ _ (fl_get ht rfl (c := 1) (by show some (Value.int .i64 L[t].1.2) = _; rw [← hkk])))
      have hq := neq_pair z1 z2 z1 z2
      rw [decide_eq_true rfl] at hq
      have htl : (t : Int) < (L.length : Int) := by omega
      have d0 : decide (0 ≤ (t : Int)) = true := dec_t (by omega)
      clear HNF hz hkz hkk q1 q2 q4 h4 e1 e2 e3 hti
      refine wp_start (w := V2) ?_
      intro x0
      refine wp_region_ext _ (by kernel_rfl) (by kernel_rfl) ?_
      repeat (go_big_quiet_step (fail))
      refine wpQuiet_nil ?_
      rintro _ ⟨y, rfl⟩
      clear y0 y1 s0 s1 hq htl d0
      dsimp only [Exit.then]
      refine k_name (Pr := fun Z => RowAt Z w.heap.size #[.int .i64 k, .int .i64 i, .int .i64 k1, .int .i64 k2] 30 ∧ Lst .i64 Z (.slice (some p) F.length pc) (zs F) (fun g => V.heap.size ≤ g) ∧ Sl Z (.slice (some ⟨g, 0, none⟩) L.length vc) L.length (fl L) ok ∧ Below w.heap.size w Z) ⟨RowAt.ext HX2.out y.ok, HU2.out.ext y.ok, HV2.out.ext y.ok, below_then HB2.out y.ok⟩ ?_
      clear HB2 HX2 HV2 HU2
      rintro V3 ⟨hX, hU, hV, hB⟩
      have HU := Lib.hid hU
      have HV3 := Lib.hid hV
      have HBB := Lib.hid hB
      have HS := Lib.hid (fun X (hX' : Below V3.heap.size V3 X) => (show X.cell? ⟨w.heap.size, 1, none⟩ = some (.int .i64 i) ∧ X.cell? ⟨w.heap.size, 2, none⟩ = some (.int .i64 k1) ∧ X.cell? ⟨w.heap.size, 3, none⟩ = some (.int .i64 k2) from ⟨(RowAt.ext hX hX').cell (i := 1) rfl, (RowAt.ext hX hX').cell (i := 2) rfl, (RowAt.ext hX hX').cell (i := 3) rfl⟩))
      have HCH := Lib.hid (fun X (hX' : Below V3.heap.size V3 X) => ChAt.ext HA.out (below_then hB hX'))
      have B0 := Lib.hid (Below.refl V3.heap.size V3)
      have B1 := Lib.hid ((Below.refl V3.heap.size V3).drew)
      have hln : ((F.length : Int) == (F.length : Int)) = true := by simp
      have hff : (f == f) = true := by simp
      have hll : ((L.length : Int) == (L.length : Int)) = true := by simp
      have hnx : ∀ r, NextP L i r → r = nextI n lk i := by obtain ⟨hd, q⟩ := HR.out; exact fun r h => next_eq q h
      have HNX := Lib.hid hnx
      obtain ⟨nx, hnxx⟩ : ∃ x, nextI n lk i = x := ⟨_, rfl⟩
      have HNN := Lib.hid hnxx
      have hnn : (nx == nx) = true := by simp
      have HRN : Hid (∀ X, Below V3.heap.size V3 X → Calls Try.prog 44 #[.slice (some ⟨g, 0, none⟩) L.length vc, .int .i64 i] X fun e w' => e = .returned (.int .i64 nx) ∧ Below X.heap.size X w') := Lib.hid fun X hX' => (rnext_any L _ ok X (hV.ext hX') hL6 i).mono (by rintro e w' ⟨r, rfl, hr, hb⟩; exact ⟨by rw [hnx _ hr, hnxx], hb⟩)
      clear hX hU hV hB hnx hnxx
      go_at_K
      go_upto_region 9 with fail
      go_region_held3 (fun X => X.cell? ⟨w.heap.size, 1, none⟩ = some (.int .i64 i) ∧ X.cell? ⟨w.heap.size, 2, none⟩ = some (.int .i64 k1) ∧ X.cell? ⟨w.heap.size, 3, none⟩ = some (.int .i64 k2))
        (first | exact HS.out _ B8.out | exact HS.out _ B7.out | exact HS.out _ B6.out | exact HS.out _ B5.out | exact HS.out _ B4.out | exact HS.out _ B3.out | exact HS.out _ B2.out | exact HS.out _ B1.out | exact HS.out _ B0.out)
        (first
          | (go_at_call 16; refine (all_any n hn b bm bl k1 k2 L lk _ (HCH.out _ B1.out)).mono ?_; rintro e w5 ⟨u5, rfl, hu5, hb5⟩; rw [HF.out] at hu5; have HU5 := Lib.hid hu5; have B2 := Lib.hid (below_then B1.out hb5); clear hu5 hb5)
          | (go_at_call 18; refine (same_any (F.map fun x : Nat => (x : Int)) (zs F) _ _ _ _ _ HU5.out (HU.out.ext B2.out) (by simp; have := HHL.out; omega) (by rw [zs_len]; have := HHL.out; omega)).mono ?_; rintro e w6 ⟨rfl, hb6⟩; rw [same_t (L := F.map fun x : Nat => (x : Int)) (M := zs F) rfl]; have B3 := Lib.hid (below_then B2.out hb6); clear hb6)
          | (go_at_call 13; refine (len_any b bm bl n L lk _ (HCH.out _ B3.out) (k1, k2)).mono ?_; rintro e w7 ⟨rfl, hb7⟩; rw [HF.out]; have B4 := Lib.hid (below_then B3.out hb7); clear hb7)
          | (go_at_call 10; refine (first_any b bm bl n L lk _ (HCH.out _ B4.out) (k1, k2)).mono ?_; rintro e w8 ⟨rfl, hb8⟩; rw [HF.out, HH.out]; have B5 := Lib.hid (below_then B4.out hb8); clear hb8)
          | (go_at_call 11; refine (next_any b bm bl n L lk _ (HCH.out _ B5.out) hn i).mono ?_; rintro e w9 ⟨rfl, rfl⟩; rw [HNN.out])
          | (go_at_call 44; refine (HRN.out _ B5.out).mono ?_; rintro e w10 ⟨rfl, hb10⟩; have B7 := Lib.hid (below_then B5.out hb10); clear hb10)
          | (go_at_call 14; refine (total_any b bm bl n L lk _ (HCH.out _ B7.out) HL4.out).mono ?_; rintro e w11 ⟨rfl, hb11⟩; have B8 := Lib.hid (below_then B7.out hb11); clear hb11))
      dsimp only [Exit.then]
      go_at_K
      go_wp2_with fail
      go_ret
      exact ⟨rfl, below_then HBB.out B8.out⟩
end Go.Proofs.Ytelnembjcgkiaaa
