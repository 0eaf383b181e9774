/- PoolPlays in a small room. -/
import Derived.Test.YtelnembjcgkiaaaDoorPoPl1
namespace Go.Proofs.YtelnembjcgkiaaaDoor
open Go.RowKit
set_option linter.unusedVariables false
set_option linter.unusedSimpArgs false
set_option maxHeartbeats 64000000 in
set_option maxRecDepth 100000 in
theorem PoolPlays_small (rm : Int) (a : Option Addr) (len cap : Nat) (at_ : Int) (W : World) (hT : Tab W) (h1 : 1 ≤ rm) (h40 : rm ≤ 40) (hf : Fit1 W (.slice actSh) (.slice a len cap)) :
    Calls Tryd.prog 6 #[.int .i64 rm, .slice a len cap, .int .i64 at_] W fun e w' => e = .returned (.bool true) ∧ Below W.heap.size W w' := by
  have HFIT := Lib.hid (fun i (hi : i < len) => act_at hf hi)
  have HT := Lib.hid hT
  clear hf hT
  have d1 : decide (40 < rm) = false := dec_f (by omega)
  obtain ⟨R, rfl⟩ : ∃ R : Nat, rm = (R : Int) := ⟨rm.toNat, by omega⟩
  have R1 : 1 ≤ R := by omega
  have R2 : R ≤ 40 := by omega
  have hR4 : R ≤ 4096 := Nat.le_trans R2 (by decide)
  clear h40 h1
  go_enter Tryd.func6, Tryd.ntmps6
  go_upto_region 3 with fail
  clear d1
  have r1 : decide ((R : Int) < 1) = false := dec_f (by omega)
  have r2 : decide ((4096 : Int) < (R : Int)) = false := dec_f (by omega)
  go_upto_region 6 with (go_at_call 8; refine (new_any R _ R1 hR4).mono ?_; rintro e w1 ⟨b, be, bo, bt, rfl, hg, hA, hB⟩)
  have HG0 := Lib.hid hg
  have HA0 := Lib.hid hA
  have HB0 := Lib.hid hB
  clear hg hA hB r1 r2
  go_upto_region 10 with (go_at_call 18; refine (rnew_any R _ hR4).mono ?_; rintro e w2 ⟨u, rfl, hu, hb2⟩)
  have HP0 := Lib.hid (PSt.init R1 hR4 HT.out HA0.out HG0.out HB0.out hu hb2)
  have HBB := Lib.hid (below_new (below_then HB0.out hb2) (.cells #[.int .u64 0] 23 ))
  clear HA0 HG0 HB0
  go_upto_region 11 with fail
  go_loopw [7, 9, 10, 11] (fun cp cm ct ci wr => ∃ (b be bo bt : Nat) (p : Po) (u : Value) (T : List Int) (ct' : Value) (j : Nat), j ≤ 80 ∧ cp = .pointer (some ⟨b, 0, none⟩) ∧ u = cm ∧ ct' = ct ∧ ci = .int .i64 j ∧ PSt W.heap.size wr b be bo bt p u T ct' R j ∧ Below W.heap.size W wr) (fun _ _ _ i _ => 80 - (intOf i).toNat)
  case atStart => exact ⟨b, be, bo, bt, _, u, _, _, 0, by omega, rfl, rfl, rfl, rfl, HP0.out, HBB.out⟩
  case round =>
    clear HP0 HBB hu hb2
    obtain ⟨b, be, bo, bt, p, u, T, ct, j, hj, rfl, rfl, rfl, rfl, hP, hB⟩ := hrel
    by_cases hlt : j < len ∧ j < 80
    · obtain ⟨hl1, hl2⟩ := hlt
      obtain ⟨ba, oa, k, e1, e2, e3, hh, of, rfl, hba, hhr, hof, q0, q1, q2, q3, q4, q5⟩ := HFIT.out j hl1
      have qa0 := (hB.cell (p := ⟨ba, oa + j * 6, none⟩) hba).trans q0
      have qa1 := (hB.cell (p := ⟨ba, oa + j * 6 + 1, none⟩) hba).trans q1
      have qa2 := (hB.cell (p := ⟨ba, oa + j * 6 + 2, none⟩) hba).trans q2
      have qa3 := (hB.cell (p := ⟨ba, oa + j * 6 + 3, none⟩) hba).trans q3
      have qa4 := (hB.cell (p := ⟨ba, oa + j * 6 + 4, none⟩) hba).trans q4
      have qa5 := (hB.cell (p := ⟨ba, oa + j * 6 + 5, none⟩) hba).trans q5
      obtain ⟨bx, hbx⟩ : ∃ bx, wr.heap.size = bx := ⟨_, rfl⟩
      have hX' : RowAt (wr.alloc (.cells #[.int .i64 k, .int .u64 e1, .int .u64 e2, .int .u64 e3, .int .u64 hh, .int .i64 of] 49)) bx #[.int .i64 k, .int .u64 e1, .int .u64 e2, .int .u64 e3, .int .u64 hh, .int .i64 of] 49 := by rw [← hbx]; exact RowAt.new _ _ _
      have HP0 := Lib.hid (hP.ext (below_new (Below.refl _ _) (.cells #[.int .i64 k, .int .u64 e1, .int .u64 e2, .int .u64 e3, .int .u64 hh, .int .i64 of] 49)))
      have HB0 := Lib.hid (below_new hB (.cells #[.int .i64 k, .int .u64 e1, .int .u64 e2, .int .u64 e3, .int .u64 hh, .int .i64 of] 49))
      have HX0 := Lib.hid hX'
      have HHR := Lib.hid hhr
      clear q0 q1 q2 q3 q4 q5 hB hX' hP hhr hof
      have g1 : decide ((j : Int) < (len : Int)) = true := dec_t (by omega)
      have g1' : decide (j < len) = true := dec_t hl1
      have g80 : decide ((j : Int) < 80) = true := by simp; omega
      have hj0 : (j : Int) < (len : Int) := by omega
      go_upto_region 14 with fail
      refine wp_name (Pr := fun V => PSt W.heap.size V b be bo bt p u T ct R j ∧ RowAt V bx #[.int .i64 k, .int .u64 e1, .int .u64 e2, .int .u64 e3, .int .u64 hh, .int .i64 of] 49 ∧ Below W.heap.size W V) ⟨HP0.out, HX0.out, HB0.out⟩ ?_
      clear HP0 HB0 HX0 qa0 qa1 qa2 qa3 qa4 qa5 hbx
      rintro W2 ⟨hP, hX, hB⟩
      have HP := Lib.hid hP
      have HX := Lib.hid hX
      have HB := Lib.hid hB
      clear hP hX hB
      have x0 := RowAt.cell HX.out (i := 0) rfl
      have x1 := RowAt.cell HX.out (i := 1) rfl
      have x2 := RowAt.cell HX.out (i := 2) rfl
      have x3 := RowAt.cell HX.out (i := 3) rfl
      have x4 := RowAt.cell HX.out (i := 4) rfl
      have x5 := RowAt.cell HX.out (i := 5) rfl
      obtain ⟨gt, tc, rfl, hgt0, hgt1, htc⟩ := own_u64 HP.out.told HP.out.len1
      have HTC := Lib.hid htc
      clear hgt0 hgt1 htc
      go_upto_if 80 with fail
      go_cut [13] (fun v wx => (∃ h : Int, v = .int .u64 h ∧ 0 ≤ h ∧ h ≤ 18446744073709551615) ∧ W2 = wx)
      case first =>
        by_cases h0 : 0 ≤ of
        · have d0 : decide (0 ≤ of) = true := dec_t h0
          obtain ⟨m, hm, hml⟩ : ∃ m : Nat, of % (T.length : Int) = (m : Int) ∧ m < T.length := by
            have h3 := HP.out.len1
            have h1 := Int.emod_nonneg of (b := (T.length : Int)) (by omega)
            have h2 := Int.emod_lt_of_pos of (b := (T.length : Int)) (by omega)
            exact ⟨(of % (T.length : Int)).toNat, by omega, by omega⟩
          have hm2 : of.tmod (T.length : Int) = (m : Int) := by rw [Int.tmod_eq_emod_of_nonneg h0, hm]
          obtain ⟨y, hy⟩ : ∃ y, T[m] = y := ⟨_, rfl⟩
          have hyr := HP.out.rng y (hy ▸ List.getElem_mem hml)
          have hcm : W2.cell? ⟨gt, m, none⟩ = some (.int .u64 y) := HTC.out m _ (by rw [List.getElem?_map, List.getElem?_eq_getElem hml, hy]; rfl)
          have h3 := HP.out.len1
          have hTz : ((T.length : Int) == 0) = false := beq_f (by omega)
          have hTz2 : ¬ ((T.length : Int) = 0) := by omega
          have hTz3 : ¬ (T.length = 0) := by omega
          have hTz4 : ¬ (T = []) := by rintro rfl; simp at h3
          have m0 : (0 : Int) ≤ (m : Int) := by omega
          have m1 : (m : Int) < (T.length : Int) := by omega
          have mw : wrap64 (m : Int) = (m : Int) := by have := HP.out.len2; unfold wrap64; omega
          have HYR := Lib.hid hyr
          clear hm hml hy hyr h3
          go_wp2_with fail
          go_meet
          exact ⟨⟨_, rfl, HYR.out⟩, rfl⟩
        · have d0 : decide (0 ≤ of) = false := dec_f h0
          go_wp2_with fail
          go_meet
          exact ⟨⟨_, rfl, HHR.out⟩, rfl⟩
      case rest =>
      obtain ⟨⟨h, rfl, h0, h1⟩, rfl⟩ := hcut
      have hfd := fun Z (hZ : Below W2.heap.size W2 Z) => rfind_po p HP.out.ok u _ Z (HP.out.doc.ext hZ) h h0 h1
      have hfc := find_cases p HP.out.ok h h0
      obtain ⟨K, hK⟩ : ∃ K, (if (findI p h).2 = true then h % 4096 else -1) = K := ⟨_, rfl⟩
      rw [hK] at hfc
      simp only [hK] at hfd
      have HFC := Lib.hid hfc
      have HFD0 := Lib.hid hfd
      clear hfd hfc hK
      go_upto_region 18 with (go_at_call 19; refine (HFD0.out _ (Below.refl _ _)).mono ?_; rintro e w3 ⟨rfl, hb3⟩)
      have HFD := Lib.hid (fun Z (hZ : Below w3.heap.size w3 Z) => HFD0.out Z (below_then hb3 hZ))
      clear HFD0
      clear x0 x1 x2 x3 x4 x5
      have HP' := Lib.hid (HP.out.ext hb3)
      have HX' := Lib.hid (RowAt.ext HX.out hb3)
      have HB' := Lib.hid (below_then HB.out hb3)
      clear HP HX HB
      have HP := Lib.hid HP'.out
      have HX := Lib.hid HX'.out
      have HB := Lib.hid HB'.out
      clear HP' HX' HB'
      have x0 := RowAt.cell HX.out (i := 0) rfl
      have x1 := RowAt.cell HX.out (i := 1) rfl
      have x2 := RowAt.cell HX.out (i := 2) rfl
      have x3 := RowAt.cell HX.out (i := 3) rfl
      have x4 := RowAt.cell HX.out (i := 4) rfl
      have x5 := RowAt.cell HX.out (i := 5) rfl
      clear hb3
      go_upto_region 19 with fail
      by_cases k0 : k = 0
      · have d0 : (k == 0) = true := beq_t k0
        clear k0
        as_aux_lemma =>
          rcases free_place p with hfull | ⟨x, hx, hxf, hlow⟩
          · have HRP := Lib.hid (rput_full p HP.out.ok u _ w3 HP.out.doc e1 e2 e3 hfull)
            have HFU := Lib.hid hfull
            clear hfull
            go_upto_region 22 with (go_at_call 20; refine HRP.out.mono ?_; rintro e w4 ⟨rfl, hb4⟩)
            clear HRP
            clear x0 x1 x2 x3 x4 x5
            have HP' := Lib.hid (HP.out.ext hb4)
            have HX' := Lib.hid (RowAt.ext HX.out hb4)
            have HB' := Lib.hid (below_then HB.out hb4)
            clear HP HX HB
            have HP := Lib.hid HP'.out
            have HX := Lib.hid HX'.out
            have HB := Lib.hid HB'.out
            clear HP' HX' HB'
            have x0 := RowAt.cell HX.out (i := 0) rfl
            have x1 := RowAt.cell HX.out (i := 1) rfl
            have x2 := RowAt.cell HX.out (i := 2) rfl
            have x3 := RowAt.cell HX.out (i := 3) rfl
            have x4 := RowAt.cell HX.out (i := 4) rfl
            have x5 := RowAt.cell HX.out (i := 5) rfl
            go_upto_region 55 with (go_at_call 9; refine (put_full b be bo bt p _ HP.out.pat HP.out.ok HP.out.tab e1 e2 e3 HFU.out).mono ?_; rintro e w5 ⟨rfl, hb5⟩)
            clear x0 x1 x2 x3 x4 x5
            have HPE := Lib.hid (HP.out.more.ext hb5)
            have HBE := Lib.hid (below_then HB.out hb5)
            clear HP HX HB
            go_upto_region 12 with (go_at_call 26; refine (alike_any b be bo bt _ _ HPE.out.pat HPE.out.ok _ _ HPE.out.doc).mono ?_; rintro e w9 ⟨rfl, hb9⟩)
            go_wp2_with fail
            go_roundw
            case measure => exact step_lt80 hl2
            case rel =>
              exact ⟨b, be, bo, bt, _, _, _, _, j + 1, by omega, rfl, rfl, rfl, by simp, HPE.out.ext hb9, below_then HBE.out hb9⟩
          · have hrp := rput_pts p HP.out.ok u _ w3 HP.out.doc e1 e2 e3 x hx hxf hlow
            have hpf := fun Z (hZ : Below w3.heap.size w3 Z) => put_free b be bo bt p Z (HP.out.pat.ext hZ) HP.out.ok (HP.out.tab.ext hZ) e1 e2 e3 x hx hxf hlow
            obtain ⟨y, hy⟩ : ∃ y, hv p (x : Int) = y := ⟨_, rfl⟩
            have HY := Lib.hid (show 0 ≤ y ∧ y ≤ 18446744073709551615 from hy ▸ hv_range p HP.out.ok x (Nat.lt_of_lt_of_le hx HP.out.ok.r2))
            rw [hy] at hrp
            simp only [hy] at hpf
            have HRP := Lib.hid hrp
            have HPF := Lib.hid hpf
            have HXQ := Lib.hid (And.intro hx (And.intro hxf hlow))
            have hyy : (y != y) = false := by simp
            clear hrp hpf hy hx hxf hlow
            go_upto_region 22 with (go_at_call 20; refine HRP.out.mono ?_; rintro e w4 ⟨u4, rfl, hu4, hb4⟩)
            clear HRP x0 x1 x2 x3 x4 x5
            have hX4 := RowAt.ext HX.out hb4
            have x1 := RowAt.cell hX4 (i := 1) rfl
            have x2 := RowAt.cell hX4 (i := 2) rfl
            have x3 := RowAt.cell hX4 (i := 3) rfl
            have HU4 := Lib.hid hu4
            have HB4 := Lib.hid hb4
            clear hu4 hb4
            go_upto_region 26 with (go_at_call 9; refine (HPF.out _ HB4.out).mono ?_; rintro e w5 ⟨rfl, hA5, hO5⟩)
            have HP5 := Lib.hid (HP.out.step HB4.out HU4.out hA5 hO5 (put_ok HP.out.ok x HXQ.out.1 _) rfl (fun y => Nat.le_succ_of_le (HP.out.old y)))
            have HB5 := Lib.hid (PSt.below (HP.out.ext HB4.out) (below_then HB.out HB4.out) hO5)
            have HLE := Lib.hid (show T.length ≤ 1000000000 by have := HP.out.len2; omega)
            have HTL := Lib.hid (show T.length ≤ j + 1 from HP.out.len2)
            have HBS := Lib.hid HB5.out.size
            clear HP HX HB HU4 HB4 HPF hA5 hO5 hX4 x1 x2 x3 hyy
            go_upto_region 55 with (at_builtin; refine wpList_grow1_at rfl (.tmp 130) (.tmp 132) 28 rfl W.heap.size 23 1 8 Tryd.underlying28 (by kernel_rfl) (by decide) (by decide) _ _ _ rfl HP5.out.told [.int .u64 y] rfl rfl (by simp [Value.oneCell']) HLE.out HBS.out _ ?_; intro v' w6 hown' ho' hob'; have HOW := Lib.hid hown'; have HOO := Lib.hid ho'; have HOB := Lib.hid (show v'.ownBlock = _ ∨ ∃ g', v'.ownBlock = some g' ∧ w5.heap.size ≤ g' from hob'.imp id fun q => ⟨_, q, by omega⟩); clear hown' ho' hob')
            have HPE := Lib.hid (HP5.out.grow HTL.out y HY.out HOW.out HOO.out HOB.out)
            have HBE := Lib.hid (Only.below HB5.out HOO.out (fun k hk => (ownsRow_base HP5.out.told k hk.symm).1) HBS.out)
            clear HP5 HB5 HOW HOO HOB
            go_upto_region 12 with (go_at_call 26; refine (alike_any b be bo bt _ _ HPE.out.pat HPE.out.ok _ _ HPE.out.doc).mono ?_; rintro e w9 ⟨rfl, hb9⟩)
            go_wp2_with fail
            go_roundw
            case measure => exact step_lt80 hl2
            case rel =>
              exact ⟨b, be, bo, bt, _, _, _, _, j + 1, by omega, rfl, rfl, rfl, by simp, HPE.out.ext hb9, below_then HBE.out hb9⟩
      · have d0 : (k == 0) = false := beq_f k0
        clear k0
        by_cases k1' : k = 1
        · have d3 : (k == 1) = true := beq_t k1'
          clear k1'
          as_aux_lemma =>
            rcases HFC.out with ⟨hf, rfl⟩ | ⟨X, hf, rfl, hXm, hXr, hXt, hXh⟩
            · have HRD := Lib.hid (rdrop_no u h w3 (HFD.out _ (Below.refl _ _)))
              have HF := Lib.hid hf
              clear hf
              go_upto_region 29 with (go_at_call 21; refine HRD.out.mono ?_; rintro e w4 ⟨rfl, hb4⟩)
              clear HRD
              clear x0 x1 x2 x3 x4 x5
              have HP' := Lib.hid (HP.out.ext hb4)
              have HX' := Lib.hid (RowAt.ext HX.out hb4)
              have HB' := Lib.hid (below_then HB.out hb4)
              clear HP HX HB
              have HP := Lib.hid HP'.out
              have HX := Lib.hid HX'.out
              have HB := Lib.hid HB'.out
              clear HP' HX' HB'
              have x0 := RowAt.cell HX.out (i := 0) rfl
              have x1 := RowAt.cell HX.out (i := 1) rfl
              have x2 := RowAt.cell HX.out (i := 2) rfl
              have x3 := RowAt.cell HX.out (i := 3) rfl
              have x4 := RowAt.cell HX.out (i := 4) rfl
              have x5 := RowAt.cell HX.out (i := 5) rfl
              go_upto_region 55 with (go_at_call 10; refine (drop_no b be bo bt p _ HP.out.pat HP.out.ok h h0 h1 HF.out).mono ?_; rintro e w5 ⟨rfl, hb5⟩)
              clear x0 x1 x2 x3 x4 x5
              have HPE := Lib.hid (HP.out.more.ext hb5)
              have HBE := Lib.hid (below_then HB.out hb5)
              clear HP HX HB
              go_upto_region 12 with (go_at_call 26; refine (alike_any b be bo bt _ _ HPE.out.pat HPE.out.ok _ _ HPE.out.doc).mono ?_; rintro e w9 ⟨rfl, hb9⟩)
              go_wp2_with fail
              go_roundw
              case measure => exact step_lt80 hl2
              case rel =>
                exact ⟨b, be, bo, bt, _, _, _, _, j + 1, by omega, rfl, rfl, rfl, by simp, HPE.out.ext hb9, below_then HBE.out hb9⟩
            · have hrd := rdrop_pts p HP.out.ok u _ w3 HP.out.doc X hXr hXt
              have hdy := fun Z (hZ : Below w3.heap.size w3 Z) => drop_yes b be bo bt p Z (HP.out.pat.ext hZ) HP.out.ok X hXr hXt
              rw [← hXh] at hrd
              simp only [← hXh] at hdy
              have HRD := Lib.hid hrd
              have HDY := Lib.hid hdy
              have dX : decide ((0 : Int) ≤ (X : Int)) = true := dec_t (by omega)
              clear hrd hdy hf hXm hXr hXt hXh
              go_upto_region 29 with (go_at_call 21; refine HRD.out.mono ?_; rintro e w4 ⟨u4, rfl, hu4, hb4⟩)
              clear HRD x0 x1 x2 x3 x4 x5
              have HU4 := Lib.hid hu4
              have HB4 := Lib.hid hb4
              clear hu4 hb4
              go_upto_region 55 with (go_at_call 10; refine (HDY.out _ HB4.out).mono ?_; rintro e w5 ⟨rfl, hA5, hO5⟩)
              have HPE := Lib.hid (HP.out.step HB4.out HU4.out hA5 hO5 (drop_ok HP.out.ok X (old_small HP.out.old hl2 (X : Int))) rfl (drop_old HP.out.old X))
              have HBE := Lib.hid (PSt.below (HP.out.ext HB4.out) (below_then HB.out HB4.out) hO5)
              clear HP HX HB HU4 HB4 HDY hA5 hO5 dX
              go_upto_region 12 with (go_at_call 26; refine (alike_any b be bo bt _ _ HPE.out.pat HPE.out.ok _ _ HPE.out.doc).mono ?_; rintro e w9 ⟨rfl, hb9⟩)
              go_wp2_with fail
              go_roundw
              case measure => exact step_lt80 hl2
              case rel =>
                exact ⟨b, be, bo, bt, _, _, _, _, j + 1, by omega, rfl, rfl, rfl, by simp, HPE.out.ext hb9, below_then HBE.out hb9⟩
        · have d3 : (k == 1) = false := beq_f k1'
          clear k1'
          by_cases k2' : k = 2
          · have d2 : (k == 2) = true := beq_t k2'
            clear k2'
            as_aux_lemma =>
              rcases HFC.out with ⟨hf, rfl⟩ | ⟨X, hf, rfl, hXm, hXr, hXt, hXh⟩
              · have HRD := Lib.hid (rset_no u h w3 e1 e2 e3 HFD.out)
                have HF := Lib.hid hf
                clear hf
                go_upto_region 33 with (go_at_call 22; refine HRD.out.mono ?_; rintro e w4 ⟨rfl, hb4⟩)
                clear HRD
                clear x0 x1 x2 x3 x4 x5
                have HP' := Lib.hid (HP.out.ext hb4)
                have HX' := Lib.hid (RowAt.ext HX.out hb4)
                have HB' := Lib.hid (below_then HB.out hb4)
                clear HP HX HB
                have HP := Lib.hid HP'.out
                have HX := Lib.hid HX'.out
                have HB := Lib.hid HB'.out
                clear HP' HX' HB'
                have x0 := RowAt.cell HX.out (i := 0) rfl
                have x1 := RowAt.cell HX.out (i := 1) rfl
                have x2 := RowAt.cell HX.out (i := 2) rfl
                have x3 := RowAt.cell HX.out (i := 3) rfl
                have x4 := RowAt.cell HX.out (i := 4) rfl
                have x5 := RowAt.cell HX.out (i := 5) rfl
                go_upto_region 55 with (go_at_call 23; refine (set_no b be bo bt p _ HP.out.pat HP.out.ok h h0 h1 e1 e2 e3 HF.out).mono ?_; rintro e w5 ⟨rfl, hb5⟩)
                clear x0 x1 x2 x3 x4 x5
                have HPE := Lib.hid (HP.out.more.ext hb5)
                have HBE := Lib.hid (below_then HB.out hb5)
                clear HP HX HB
                go_upto_region 12 with (go_at_call 26; refine (alike_any b be bo bt _ _ HPE.out.pat HPE.out.ok _ _ HPE.out.doc).mono ?_; rintro e w9 ⟨rfl, hb9⟩)
                go_wp2_with fail
                go_roundw
                case measure => exact step_lt80 hl2
                case rel =>
                  exact ⟨b, be, bo, bt, _, _, _, _, j + 1, by omega, rfl, rfl, rfl, by simp, HPE.out.ext hb9, below_then HBE.out hb9⟩
              · have hrd := rset_pts p HP.out.ok u _ w3 HP.out.doc X hXr hXt e1 e2 e3
                have hdy := fun Z (hZ : Below w3.heap.size w3 Z) => set_yes b be bo bt p Z (HP.out.pat.ext hZ) HP.out.ok h h0 h1 e1 e2 e3 X hXr hXt hXm hf
                rw [← hXh] at hrd
                have HRD := Lib.hid hrd
                have HDY := Lib.hid hdy
                have HXR := Lib.hid hXr
                have dX : decide ((0 : Int) ≤ (X : Int)) = true := dec_t (by omega)
                clear hrd hdy hf hXm hXr hXt hXh
                go_upto_region 33 with (go_at_call 22; refine HRD.out.mono ?_; rintro e w4 ⟨u4, rfl, hu4, hb4⟩)
                clear HRD x0 x1 x2 x3 x4 x5
                have hX4 := RowAt.ext HX.out hb4
                have x1 := RowAt.cell hX4 (i := 1) rfl
                have x2 := RowAt.cell hX4 (i := 2) rfl
                have x3 := RowAt.cell hX4 (i := 3) rfl
                have HU4 := Lib.hid hu4
                have HB4 := Lib.hid hb4
                clear hu4 hb4 hX4
                go_upto_region 55 with (go_at_call 23; refine (HDY.out _ HB4.out).mono ?_; rintro e w5 ⟨rfl, hA5, hO5⟩)
                have HPE := Lib.hid (HP.out.step HB4.out HU4.out hA5 hO5 (set_ok HP.out.ok X HXR.out _) rfl (fun y => Nat.le_succ_of_le (HP.out.old y)))
                have HBE := Lib.hid (PSt.below (HP.out.ext HB4.out) (below_then HB.out HB4.out) hO5)
                clear HP HX HB HU4 HB4 HDY hA5 hO5 dX x1 x2 x3
                go_upto_region 12 with (go_at_call 26; refine (alike_any b be bo bt _ _ HPE.out.pat HPE.out.ok _ _ HPE.out.doc).mono ?_; rintro e w9 ⟨rfl, hb9⟩)
                go_wp2_with fail
                go_roundw
                case measure => exact step_lt80 hl2
                case rel =>
                  exact ⟨b, be, bo, bt, _, _, _, _, j + 1, by omega, rfl, rfl, rfl, by simp, HPE.out.ext hb9, below_then HBE.out hb9⟩
          · have d2 : (k == 2) = false := beq_f k2'
            clear k2'
            by_cases k3' : k = 3
            · have d4 : (k == 3) = true := beq_t k3'
              clear k3'
              as_aux_lemma =>
                rcases HFC.out with ⟨hf, rfl⟩ | ⟨X, hf, rfl, hXm, hXr, hXt, hXh⟩
                · have HF := Lib.hid hf
                  clear hf
                  go_upto_region 37 with (go_at_call 11; refine (get_no b be bo bt p _ HP.out.pat HP.out.ok h h0 h1 HF.out).mono ?_; rintro e w4 ⟨rfl, hb4⟩)
                  refine wp_name (Pr := fun V => RowAt V w4.heap.size #[.int .u64 0, .int .u64 0, .int .u64 0] 32 ∧ Below w3.heap.size w3 V) ⟨RowAt.new w4 _ _, below_new hb4 _⟩ ?_
                  rintro V ⟨hbx, hbV⟩
                  obtain ⟨hkB, _⟩ := Ext.cells hbx
                  have s0 : ∀ y : Ext V.heap.size V, y.world.cell? ⟨w4.heap.size, 0, none⟩ = some (.int .u64 0) := fun y => hkB y 0
                  have s1 : ∀ y : Ext V.heap.size V, y.world.cell? ⟨w4.heap.size, 1, none⟩ = some (.int .u64 0) := fun y => hkB y 1
                  have s2 : ∀ y : Ext V.heap.size V, y.world.cell? ⟨w4.heap.size, 2, none⟩ = some (.int .u64 0) := fun y => hkB y 2
                  have HBV := Lib.hid hbV
                  have HPN := Lib.hid (fun y : Ext V.heap.size V => place_no b be bo bt p y.world (HP.out.pat.ext (below_then HBV.out y.ok)) HP.out.ok h h0 h1 HF.out)
                  clear hbx hbV hb4 hkB x0 x1 x2 x3 x4 x5
                  refine wp_start (w := V) ?_
                  intro z0
                  refine wp_region_ext _ (by kernel_rfl) (by kernel_rfl) ?_
                  repeat (go_big_quiet_step ((go_at_call 12; exact Ext.call (HPN.out _))))
                  refine wpQuiet_nil ?_
                  rintro _ ⟨y, rfl⟩
                  clear s0 s1 s2
                  have B2 := Lib.hid y.ok
                  have HS := HPN
                  have B0 := HPN
                  have B1 := HPN
                  clear HPN
                  go_upto_region 55 with fail
                  have HPE := Lib.hid (HP.out.more.ext (below_then HBV.out B2.out))
                  have HBE := Lib.hid (below_then HB.out (below_then HBV.out B2.out))
                  clear HP HX HB HS B0 B1 B2 HBV
                  go_upto_region 12 with (go_at_call 26; refine (alike_any b be bo bt _ _ HPE.out.pat HPE.out.ok _ _ HPE.out.doc).mono ?_; rintro e w9 ⟨rfl, hb9⟩)
                  go_wp2_with fail
                  go_roundw
                  case measure => exact step_lt80 hl2
                  case rel =>
                    exact ⟨b, be, bo, bt, _, _, _, _, j + 1, by omega, rfl, rfl, rfl, by simp, HPE.out.ext hb9, below_then HBE.out hb9⟩
                · obtain ⟨⟨f1, f2, f3⟩, he⟩ : ∃ e, (p.ent (X : Int)).getD (0, 0, 0) = e := ⟨_, rfl⟩
                  have hgt := fun Z (hZ : Below w3.heap.size w3 Z) => get_hv b be bo bt p Z (HP.out.pat.ext hZ) HP.out.ok X hXr hXt f1 f2 f3 he
                  have hpl := fun Z (hZ : Below w3.heap.size w3 Z) => place_hv b be bo bt p Z (HP.out.pat.ext hZ) HP.out.ok X hXr hXt
                  simp only [← hXh] at hgt hpl
                  have HGT := Lib.hid hgt
                  have HPC := Lib.hid hpl
                  obtain ⟨gd, ua, uc, hu, hgd, hdl, hdc⟩ : ∃ g ua uc, u = .slice ua p.room uc ∧ ua = some ⟨g, 0, none⟩ ∧ g < w3.heap.size ∧ (w3.cell? ⟨g, X * 5 + 2, none⟩ = some (.int .u64 f1) ∧ w3.cell? ⟨g, X * 5 + 3, none⟩ = some (.int .u64 f2) ∧ w3.cell? ⟨g, X * 5 + 4, none⟩ = some (.int .u64 f3)) := by
                    obtain ⟨a', c', q1, q2, q3, h4⟩ := HP.out.doc
                    have hXl : X < (pts p).length := pts_lt hXr
                    obtain ⟨g, r1, r2, -, r4⟩ := h4 (by omega)
                    have hp : (pts p)[X] = ((p.old (X : Int) : Int) + 1, (p.ent (X : Int)).isSome, f1, f2, f3) := by rw [pts_get]; unfold ptOf; rw [he]
                    exact ⟨g, a', c', by rw [q1, pts_len], r1, r2, r4 _ _ (fl5_get hXl hp (c := 2) rfl), r4 _ _ (fl5_get hXl hp (c := 3) rfl), r4 _ _ (fl5_get hXl hp (c := 4) rfl)⟩
                  subst hgd
                  subst hu
                  have HDC := Lib.hid (And.intro hdl hdc)
                  have hXi : (X : Int) < (p.room : Int) := by omega
                  have hX0 : (0 : Int) ≤ (X : Int) := by omega
                  have dX : decide ((0 : Int) ≤ (X : Int)) = true := dec_t (by omega)
                  have hXX : ((X : Int) == (X : Int)) = true := by simp
                  clear hgt hpl he hdl hdc hf hXm hXr hXt hXh
                  go_upto_region 37 with (go_at_call 11; refine (HGT.out _ (Below.refl _ _)).mono ?_; rintro e w4 ⟨rfl, hb4⟩)
                  refine wp_name (Pr := fun V => RowAt V w4.heap.size #[.int .u64 f1, .int .u64 f2, .int .u64 f3] 32 ∧ Below w3.heap.size w3 V) ⟨RowAt.new w4 _ _, below_new hb4 _⟩ ?_
                  rintro V ⟨hbx, hbV⟩
                  obtain ⟨hkB, _⟩ := Ext.cells hbx
                  have s0 : ∀ y : Ext V.heap.size V, y.world.cell? ⟨w4.heap.size, 0, none⟩ = some (.int .u64 f1) := fun y => hkB y 0
                  have s1 : ∀ y : Ext V.heap.size V, y.world.cell? ⟨w4.heap.size, 1, none⟩ = some (.int .u64 f2) := fun y => hkB y 1
                  have s2 : ∀ y : Ext V.heap.size V, y.world.cell? ⟨w4.heap.size, 2, none⟩ = some (.int .u64 f3) := fun y => hkB y 2
                  have s3 : ∀ y : Ext V.heap.size V, y.world.cell? ⟨gd, X * 5 + 2, none⟩ = some (.int .u64 f1) := fun y => ((below_then hbV y.ok).cell (p := ⟨gd, X * 5 + 2, none⟩) HDC.out.1).trans HDC.out.2.1
                  have s4 : ∀ y : Ext V.heap.size V, y.world.cell? ⟨gd, X * 5 + 3, none⟩ = some (.int .u64 f2) := fun y => ((below_then hbV y.ok).cell (p := ⟨gd, X * 5 + 3, none⟩) HDC.out.1).trans HDC.out.2.2.1
                  have s5 : ∀ y : Ext V.heap.size V, y.world.cell? ⟨gd, X * 5 + 4, none⟩ = some (.int .u64 f3) := fun y => ((below_then hbV y.ok).cell (p := ⟨gd, X * 5 + 4, none⟩) HDC.out.1).trans HDC.out.2.2.2
                  have HBV := Lib.hid hbV
                  have HPN := Lib.hid (fun y : Ext V.heap.size V => HPC.out y.world (below_then HBV.out y.ok))
                  have hq := neq_E f1 f2 f3
                  clear hbx hbV hb4 hkB x0 x1 x2 x3 x4 x5
                  refine wp_start (w := V) ?_
                  intro z0
                  refine wp_region_ext _ (by kernel_rfl) (by kernel_rfl) ?_
                  repeat (go_big_quiet_step ((go_at_call 12; exact Ext.call (HPN.out _))))
                  refine wpQuiet_nil ?_
                  rintro _ ⟨y, rfl⟩
                  clear s0 s1 s2 s3 s4 s5 hq
                  have B2 := Lib.hid y.ok
                  have HS := HPN
                  have B0 := HPN
                  have B1 := HPN
                  clear HPN
                  go_upto_region 55 with fail
                  have HPE := Lib.hid (HP.out.more.ext (below_then HBV.out B2.out))
                  have HBE := Lib.hid (below_then HB.out (below_then HBV.out B2.out))
                  clear HP HX HB HS B0 B1 B2 HBV dX hXX hXi hX0
                  go_upto_region 12 with (go_at_call 26; refine (alike_any b be bo bt _ _ HPE.out.pat HPE.out.ok _ _ HPE.out.doc).mono ?_; rintro e w9 ⟨rfl, hb9⟩)
                  go_wp2_with fail
                  go_roundw
                  case measure => exact step_lt80 hl2
                  case rel =>
                    exact ⟨b, be, bo, bt, _, _, _, _, j + 1, by omega, rfl, rfl, rfl, by simp, HPE.out.ext hb9, below_then HBE.out hb9⟩
            · have d4 : (k == 3) = false := beq_f k3'
              clear k3'
              by_cases k4' : k = 4
              · have d5 : (k == 4) = true := beq_t k4'
                clear k4'
                as_aux_lemma =>
                  obtain ⟨S, hS⟩ := places_ex HP.out.ok
                  have hrh := fun Z (hZ : Below w3.heap.size w3 Z) => rhandles_any (pts p) u _ Z (HP.out.doc.ext hZ) (pts_le HP.out.ok) (pts_bound HP.out.ok)
                  simp only [hnd_pts p S hS HP.out.ok] at hrh
                  obtain ⟨T2, hT2⟩ : ∃ T2, S.map (hv p) = T2 := ⟨_, rfl⟩
                  obtain ⟨N, hN⟩ : ∃ N, T2.length = N := ⟨_, rfl⟩
                  rw [hT2] at hrh
                  have HRH := Lib.hid hrh
                  have HSS := Lib.hid hS
                  have HT2 := Lib.hid hT2
                  have HNN := Lib.hid hN
                  have HSN := Lib.hid (show S.length = N by rw [← hN, ← hT2, List.length_map])
                  have HNL := Lib.hid (show N ≤ 1000000 by rw [← hN, ← hT2, List.length_map]; have h1 := hS.len; have h2 := cntB_le p.tk p.room; have h3 := HP.out.ok.r2; unfold Po.cnt at h1; omega)
                  clear hrh hS hT2 hN x0 x1 x2 x3 x4 x5
                  go_upto_region 41 with (go_at_call 24; refine (HRH.out _ (Below.refl _ _)).mono ?_; rintro e w4 ⟨u4, rfl, hu4, hb4⟩; have HB4 := Lib.hid hb4; clear hb4; obtain ⟨a4, c4, rfl, -⟩ := hu4; rw [HNN.out])
                  go_upto_region 42 with (go_at_call 24; refine (HRH.out _ HB4.out).mono ?_; rintro e w5 ⟨u5, rfl, hu5, hb5⟩)
                  have HB5 := Lib.hid (below_then HB4.out hb5)
                  rw [HNN.out] at hu5
                  have HU5 := Lib.hid hu5
                  obtain ⟨a5, c5, rfl, -⟩ := hu5
                  clear hb5 HB4 HRH
                  have hd5 := HP.out.doc.ext HB5.out
                  go_upto_region 43 with fail
                  go_loopw [9, 24] (fun v z wr => ∃ (i : Nat) (q : Po), z = .int .i64 i ∧ i ≤ N ∧ Gone p q (S.take i) ∧ Sl wr v (pts q).length (fl5 (pts q)) (fun g => (¬ S3 be bo bt g ∧ (Value.slice (some ⟨gt, 0, none⟩) T.length tc).ownBlock ≠ some g) ∧ g < w5.heap.size ∨ w5.heap.size ≤ g) ∧ Below w5.heap.size w5 wr) (fun _ z _ => N - (intOf z).toNat)
                  case atStart => exact ⟨0, p, rfl, Nat.zero_le _, Gone.start HP.out.ok, hd5.here.mono fun g hg => .inl hg, Below.refl _ _⟩
                  case round =>
                    clear hd5
                    obtain ⟨i, q, rfl, hi, hG, hV, hBt⟩ := hrel
                    have HG := Lib.hid hG
                    have HV := Lib.hid hV
                    have HBT := Lib.hid hBt
                    by_cases hil : i < N
                    · have d1 : decide ((i : Int) < (N : Int)) = true := dec_t (by omega)
                      have hiS : i < S.length := by rw [HSN.out]; exact hil
                      obtain ⟨X, hX1, hX2, hX3, hX4, hX5⟩ := gone_at HSS.out HP.out.ok hiS hG
                      have hX1' : T2[i]? = some (hv q (X : Int)) := by rw [← HT2.out, List.getElem?_eq_getElem (by rw [List.length_map]; exact hiS), hX1]
                      obtain ⟨g5, rfl, hg5, hc5⟩ : ∃ g, a5 = some ⟨g, 0, none⟩ ∧ g < w5.heap.size ∧ w5.cell? ⟨g, i, none⟩ = some (.int .u64 (hv q (X : Int))) := by
                        obtain ⟨a', c', q1, q2, q3, h4⟩ := HU5.out
                        obtain ⟨g, r1, r2, -, r4⟩ := h4 (Nat.lt_of_le_of_lt (Nat.zero_le _) hil)
                        injection q1 with q1
                        exact ⟨g, q1.trans r1, r2, r4 i _ (by rw [List.getElem?_map, hX1']; rfl)⟩
                      have hc5r := (hBt.cell (p := ⟨g5, i, none⟩) hg5).trans hc5
                      have HRD := Lib.hid (rdrop_pts q hG.ok _ _ wr hV X hX2 hX3)
                      have hGn := hG.step hX5 (old_small HP.out.old hl2)
                      have HGN := Lib.hid (show Gone p (q.drop X) (S.take (i + 1)) by rw [List.take_succ_eq_append_getElem hiS, hX4]; exact hGn)
                      have w1' := wrap_succ (show i ≤ 1000000 from Nat.le_trans (Nat.le_of_lt hil) HNL.out)
                      have HW1 := Lib.hid w1'
                      clear hG hV hBt hX1 hX1' hX2 hX3 hX4 hX5 hGn hc5 w1'
                      go_wp2_with (go_at_call 21; refine HRD.out.mono ?_; rintro e w6 ⟨u6, rfl, hu6, hb6⟩)
                      go_roundw
                      case measure => rw [HW1.out]; exact step_lt hil
                      case rel => exact ⟨i + 1, _, by rw [HW1.out]; simp, hil, HGN.out, hu6.mono fun g hg => .inr (Nat.le_trans HBT.out.size hg), below_then HBT.out hb6⟩
                    · obtain rfl : i = N := Nat.le_antisymm hi (Nat.le_of_not_lt hil)
                      have d1 : decide ((i : Int) < (i : Int)) = false := dec_f (Int.lt_irrefl _)
                      have hGf : Gone p q S := by have := hG; rw [← HSN.out, List.take_length] at this; exact this
                      have HGF := Lib.hid hGf
                      clear hG hV hBt hGf HG
                      have HNC := Lib.hid (show p.cnt = i by rw [← HSN.out]; exact HSS.out.len.symm)
                      have HBW := Lib.hid (below_then HB5.out HBT.out)
                      have hnn : ((i : Int) != (i : Int)) = false := by simp
                      go_upto_region 55 with (go_at_call 16; refine (clear_any b be bo bt p _ (HP.out.pat.ext HBW.out) HP.out.ok (old_small HP.out.old hl2)).mono ?_; rintro e w7 ⟨rfl, ⟨q7, S7, hA7, hG7, hS7⟩, hO7⟩; rw [HNC.out])
                      have hq : pts q7 = pts q := gone_pts HGF.out hG7 HSS.out hS7
                      have hdoc := HV.out
                      rw [← hq] at hdoc
                      have HPE := Lib.hid (PSt.cleared HP.out HBW.out (hdoc.mono fun g hg => (hg.elim (fun h => .inl h.1) fun h => .inr (Nat.le_trans HB5.out.size h) : (¬ S3 be bo bt g ∧ (Value.slice (some ⟨gt, 0, none⟩) T.length tc).ownBlock ≠ some g) ∨ w3.heap.size ≤ g)) hA7 hO7 hG7)
                      have HBE := Lib.hid (PSt.below (HP.out.ext HBW.out) (below_then HB.out HBW.out) hO7)
                      clear HP HX HB HV HBT HBW hA7 hO7 hG7 hS7 hq hdoc HGF HU5 hnn
                      go_upto_region 12 with (go_at_call 26; refine (alike_any b be bo bt _ _ HPE.out.pat HPE.out.ok _ _ HPE.out.doc).mono ?_; rintro e w9 ⟨rfl, hb9⟩)
                      go_wp2_with fail
                      go_roundw
                      case measure => exact step_lt80 hl2
                      case rel =>
                        exact ⟨b, be, bo, bt, _, _, _, _, j + 1, by omega, rfl, rfl, rfl, by simp, HPE.out.ext hb9, below_then HBE.out hb9⟩
              · have d5 : (k == 4) = false := beq_f k4'
                clear k4'
                by_cases k5' : k = 5
                · have d6 : (k == 5) = true := beq_t k5'
                  clear k5'
                  as_aux_lemma =>
                    go_upto_region 50 with (go_at_call 25; refine (copyPo_any b be bo bt p _ HP.out.pat HP.out.ok).mono ?_; rintro e w4 ⟨b', be', bo', bt', rfl, hg', hA', hb4⟩)
                    have HAN := Lib.hid hA'
                    have HGN := Lib.hid hg'
                    have HB4 := Lib.hid hb4
                    clear x0 x1 x2 x3 x4 x5 hA' hg' hb4
                    go_upto_region 52 with (go_at_call 26; refine (alike_any b' be' bo' bt' p _ HAN.out HP.out.ok _ _ (HP.out.doc.ext HB4.out)).mono ?_; rintro e w5 ⟨rfl, hb5⟩)
                    have HAN5 := Lib.hid (HAN.out.ext hb5)
                    have HB5 := Lib.hid (below_then HB4.out hb5)
                    clear hb5 HAN HB4
                    have hX5 := RowAt.ext HX.out HB5.out
                    have x1 := RowAt.cell hX5 (i := 1) rfl
                    have x2 := RowAt.cell hX5 (i := 2) rfl
                    have x3 := RowAt.cell hX5 (i := 3) rfl
                    clear hX5
                    go_upto_region 53 with (go_at_call 9; refine (put_some b be bo bt p _ (HP.out.pat.ext HB5.out) HP.out.ok (HP.out.tab.ext HB5.out) e1 e2 e3).mono ?_; rintro e w6 ⟨v6, p6, rfl, hA6, ok6, ho6, hO6⟩)
                    have HO6 := Lib.hid hO6
                    have HO6D := Lib.hid ho6
                    clear x1 x2 x3 hO6 ho6
                    go_upto_region 55 with (go_at_call 16; refine (clear_any b be bo bt p6 _ hA6 ok6 (fun y => by rw [HO6D.out]; exact old_small HP.out.old hl2 y)).mono ?_; rintro e w7 ⟨rfl, -, hO7⟩)
                    have HOO := Lib.hid (S3.trans3 HO6.out hO7)
                    have HPE := Lib.hid (HP.out.copy HAN5.out HB5.out HGN.out HOO.out)
                    have HBE := Lib.hid (PSt.below (HP.out.ext HB5.out) (below_then HB.out HB5.out) HOO.out)
                    clear HP HX HB HB5 HAN5 HO6 HOO hO7 hA6 ok6
                    go_upto_region 12 with (go_at_call 26; refine (alike_any b' be' bo' bt' _ _ HPE.out.pat HPE.out.ok _ _ HPE.out.doc).mono ?_; rintro e w9 ⟨rfl, hb9⟩)
                    go_wp2_with fail
                    go_roundw
                    case measure => exact step_lt80 hl2
                    case rel =>
                      exact ⟨b', be', bo', bt', _, _, _, _, j + 1, by omega, rfl, rfl, rfl, by simp, HPE.out.ext hb9, below_then HBE.out hb9⟩
                · have d6 : (k == 5) = false := beq_f k5'
                  clear k5'
                  as_aux_lemma =>
                    go_upto_region 55 with fail
                    have HPE := Lib.hid HP.out.more
                    have HBE := Lib.hid HB.out
                    clear HP HX HB x0 x1 x2 x3 x4 x5
                    go_upto_region 12 with (go_at_call 26; refine (alike_any b be bo bt _ _ HPE.out.pat HPE.out.ok _ _ HPE.out.doc).mono ?_; rintro e w9 ⟨rfl, hb9⟩)
                    go_wp2_with fail
                    go_roundw
                    case measure => exact step_lt80 hl2
                    case rel =>
                      exact ⟨b, be, bo, bt, _, _, _, _, j + 1, by omega, rfl, rfl, rfl, by simp, HPE.out.ext hb9, below_then HBE.out hb9⟩
    · have dl : (decide (j < len) = false ∧ decide ((j : Int) < (len : Int)) = false) ∨ (decide ((j : Int) < 80) = false ∧ decide (j < len) = true ∧ decide ((j : Int) < (len : Int)) = true) := by
        by_cases h1 : j < len
        · exact .inr ⟨dec_f (by have : ¬ j < 80 := fun h => hlt ⟨h1, h⟩; omega), dec_t h1, dec_t (by omega)⟩
        · exact .inl ⟨dec_f h1, dec_f (by omega)⟩
      have HP := Lib.hid hP
      have HB := Lib.hid hB
      clear hP hB hlt
      as_aux_lemma =>
        rcases end_cases p HP.out.ok at_ with ⟨z0, hno⟩ | ⟨X, rfl, hXr, ⟨hXt, hent⟩ | hXt⟩
        · have hz : decide (0 ≤ at_) = false ∨ (decide (0 ≤ at_) = true ∧ decide (at_ < (p.room : Int)) = false) := z0
          have HNO := Lib.hid hno
          have hu := HP.out.doc
          rw [pts_len] at hu
          obtain ⟨ua, uc, rfl, -⟩ := hu
          clear z0 hno
          rcases dl with ⟨dl1, dl2⟩ | ⟨dl1, dl2, dl3⟩ <;> rcases hz with hz1 | ⟨hz1, hz2⟩
          all_goals
            go_wp2_with (first | (go_at_call 14; refine (known16 _ HP.out.tab).mono ?_; rintro e w9 ⟨rfl, hb9⟩; have HB9 := Lib.hid hb9; clear hb9) | (go_at_call 17; refine (handleAt_no b be bo bt p _ (HP.out.pat.ext HB9.out) at_ HNO.out).mono ?_; rintro e w10 ⟨rfl, hb10⟩))
            go_ret
            exact ⟨rfl, below_then HB.out (below_then HB9.out hb10)⟩
        · have dz1 : decide ((0 : Int) ≤ (X : Int)) = true := dec_t (by omega)
          have dz2 : decide ((X : Int) < (p.room : Int)) = true := dec_t (by omega)
          have hXi : (X : Int) < (p.room : Int) := by omega
          have hX0 : (0 : Int) ≤ (X : Int) := by omega
          have HXR := Lib.hid hXr
          have HXT := Lib.hid hXt
          obtain ⟨gd, ua, uc, rfl, rfl, hdc⟩ : ∃ g ua uc, u = .slice ua p.room uc ∧ ua = some ⟨g, 0, none⟩ ∧ wr.cell? ⟨g, X * 5 + 1, none⟩ = some (.bool true) := by
            obtain ⟨a', c', q1, q2, q3, h4⟩ := HP.out.doc
            have hXl : X < (pts p).length := pts_lt hXr
            obtain ⟨g, r1, r2, -, r4⟩ := h4 (by omega)
            have hp : (pts p)[X] = ((p.old (X : Int) : Int) + 1, true, (p.ent (X : Int)).getD (0, 0, 0)) := by rw [pts_get]; unfold ptOf; rw [show (p.ent (X : Int)).isSome = true from hXt]
            exact ⟨g, a', c', by rw [q1, pts_len], r1, r4 _ _ (fl5_get hXl hp (c := 1) rfl)⟩
          have hrh := rhandle_any (pts p) _ _ wr HP.out.doc (pts_le HP.out.ok) X (pts_lt hXr) ((p.old (X : Int) : Int) + 1) (by rw [pts_get]; rfl) (by omega) (by have := HP.out.ok.old (X : Int); omega)
          have hrh2 : Calls Tryd.prog 27 #[.slice (some ⟨gd, 0, none⟩) p.room uc, .int .i64 X] wr fun e w' => e = .returned (.int .u64 (hv p (X : Int))) ∧ Below wr.heap.size wr w' := hrh
          obtain ⟨y, hy⟩ : ∃ y, hv p (X : Int) = y := ⟨_, rfl⟩
          rw [hy] at hrh2
          have HRH := Lib.hid hrh2
          have HY := Lib.hid hy
          have hyy : (y == y) = true := by simp
          clear hrh hrh2 hy hXr hXt hent
          rcases dl with ⟨dl1, dl2⟩ | ⟨dl1, dl2, dl3⟩
          all_goals
            go_wp2_with (first | (go_at_call 27; refine HRH.out.mono ?_; rintro e w8 ⟨rfl, hb8⟩; have HB8 := Lib.hid hb8; clear hb8 hdc) | (go_at_call 14; refine (known16 _ (HP.out.tab.ext HB8.out)).mono ?_; rintro e w9 ⟨rfl, hb9⟩; have HB9 := Lib.hid (below_then HB8.out hb9); clear hb9) | (go_at_call 17; refine (handleAt_yes b be bo bt p _ (HP.out.pat.ext HB9.out) HP.out.ok X HXR.out HXT.out).mono ?_; rintro e w10 ⟨rfl, hb10⟩; rw [HY.out]))
            go_ret
            exact ⟨rfl, below_then HB.out (below_then HB9.out hb10)⟩
        · have dz1 : decide ((0 : Int) ≤ (X : Int)) = true := dec_t (by omega)
          have dz2 : decide ((X : Int) < (p.room : Int)) = true := dec_t (by omega)
          have hXi : (X : Int) < (p.room : Int) := by omega
          have hX0 : (0 : Int) ≤ (X : Int) := by omega
          have HXR := Lib.hid hXr
          have HXT := Lib.hid hXt
          obtain ⟨gd, ua, uc, rfl, rfl, hdc⟩ : ∃ g ua uc, u = .slice ua p.room uc ∧ ua = some ⟨g, 0, none⟩ ∧ wr.cell? ⟨g, X * 5 + 1, none⟩ = some (.bool false) := by
            obtain ⟨a', c', q1, q2, q3, h4⟩ := HP.out.doc
            have hXl : X < (pts p).length := pts_lt hXr
            obtain ⟨g, r1, r2, -, r4⟩ := h4 (by omega)
            have hp : (pts p)[X] = ((p.old (X : Int) : Int) + 1, false, (p.ent (X : Int)).getD (0, 0, 0)) := by rw [pts_get]; unfold ptOf; rw [show (p.ent (X : Int)).isSome = false from hXt]
            exact ⟨g, a', c', by rw [q1, pts_len], r1, r4 _ _ (fl5_get hXl hp (c := 1) rfl)⟩
          clear hXr hXt
          rcases dl with ⟨dl1, dl2⟩ | ⟨dl1, dl2, dl3⟩
          all_goals
            go_wp2_with (first | (go_at_call 14; refine (known16 _ HP.out.tab).mono ?_; rintro e w9 ⟨rfl, hb9⟩; have HB9 := Lib.hid hb9; clear hb9) | (go_at_call 17; refine (handleAt_no b be bo bt p _ (HP.out.pat.ext HB9.out) (X : Int) HXT.out).mono ?_; rintro e w10 ⟨rfl, hb10⟩))
            go_ret
            exact ⟨rfl, below_then HB.out (below_then HB9.out hb10)⟩
end Go.Proofs.YtelnembjcgkiaaaDoor
