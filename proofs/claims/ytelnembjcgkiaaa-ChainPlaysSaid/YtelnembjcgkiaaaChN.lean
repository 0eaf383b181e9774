/- Whatever chains are asked: ChainPlays. -/
import Derived.Test.YtelnembjcgkiaaaChM
namespace Go.Proofs.Ytelnembjcgkiaaa
open Go.RowKit
set_option linter.unusedVariables false
set_option linter.unusedSimpArgs false

theorem Sl.only {w w' : World} {v : Value} {n : Nat} {cs : List Value} {ok S : Nat → Prop} (h : Sl w v n cs ok) (ho : Only S w w') (hs : ∀ g, ok g → ¬ S g) : Sl w' v n cs ok := by
  obtain ⟨a, cap, h1, h2, h3, h4⟩ := h
  exact ⟨a, cap, h1, h2, h3, fun h0 => by obtain ⟨g, q1, q2, q3, q4⟩ := h4 h0; exact ⟨g, q1, Nat.lt_of_lt_of_le q2 ho.size, q3, fun k u hu => cell_only (q4 k u hu) ho (hs _ q3)⟩⟩
theorem Sl.here {w : World} {v : Value} {n : Nat} {cs : List Value} {ok : Nat → Prop} (h : Sl w v n cs ok) : Sl w v n cs (fun g => ok g ∧ g < w.heap.size) := by
  obtain ⟨a, cap, h1, h2, h3, h4⟩ := h
  exact ⟨a, cap, h1, h2, h3, fun h0 => by obtain ⟨g, q1, q2, q3, q4⟩ := h4 h0; exact ⟨g, q1, q2, ⟨q3, q2⟩, q4⟩⟩
theorem Sl.cut {w : World} {v : Value} {n m : Nat} {cs ds : List Value} {ok : Nat → Prop} (h : Sl w v n cs ok) (hn : n = m) (hc : cs = ds) : Sl w v m ds ok := by subst hn; subst hc; exact h
theorem ChAt.lts {w : World} {b bm bl n : Nat} {L : List ((Int × Int) × Nat)} {lk : Nat → Lk (Int × Int)} (h : ChAt w b bm bl n L lk) : b < w.heap.size ∧ bm < w.heap.size ∧ bl < w.heap.size := by
  obtain ⟨M, c, cp, q⟩ := h
  exact ⟨q.row.lt, q.m.lt, q.lks.lt⟩
theorem dropAll_le {κ : Type} : ∀ (pre : List Nat) (L : List (κ × Nat)), (dropAll L pre).length ≤ L.length
  | [], L => Nat.le_refl _
  | y :: pre, L => Nat.le_trans (dropAll_le pre (dropT L y)) (List.length_filter_le _ _)
theorem ChAt.rep {w : World} {b bm bl n : Nat} {L : List ((Int × Int) × Nat)} {lk : Nat → Lk (Int × Int)} (h : ChAt w b bm bl n L lk) : ∃ hd, Rep (0, 0) n L lk hd := by
  obtain ⟨M, c, cp, q⟩ := h
  exact ⟨_, q.rep⟩
set_option maxHeartbeats 8000000 in
set_option maxRecDepth 100000 in
theorem new_no (r : Int) (w : World) (h : r < 1 ∨ 4096 < r) :
    Calls Try.prog 7 #[.int .i64 r] w fun e w' => e = .returned (.tuple #[.pointer none, .int .i64 5]) ∧ Below w.heap.size w w' := by
  by_cases h1 : r < 1
  · have d1 := dec_t h1
    clear h h1
    go_enter Try.func7, Try.ntmps7
    go_wp2_with fail
    refine bodyPost_ret (v := .tuple #[.pointer none, .int .i64 5]) (by simp [results, Try.results7, go_sem]) rfl ⟨rfl, Below.refl _ _⟩
  · have d1 := dec_f h1
    have d2 := dec_t (h.resolve_left h1)
    clear h h1
    go_enter Try.func7, Try.ntmps7
    go_wp2_with fail
    refine bodyPost_ret (v := .tuple #[.pointer none, .int .i64 5]) (by simp [results, Try.results7, go_sem]) rfl ⟨rfl, Below.refl _ _⟩
set_option maxHeartbeats 8000000 in
set_option maxRecDepth 100000 in
theorem rpush_all (n : Nat) (hn : n ≤ 4096) (L : List ((Int × Int) × Nat)) (lk : Nat → Lk (Int × Int)) (hR : ∃ hd, Rep (0, 0) n L lk hd) (v : Value) (ok : Nat → Prop) (w : World) (hv : Sl w v L.length (fl L) ok) (q1 q2 i : Int) :
    Calls Try.prog 19 #[v, .int .i64 (n : Int), .agg #[.int .i64 q1, .int .i64 q2], .int .i64 i] w fun e w' => ∃ u, e = .returned (.tuple #[u, .bool (okP n lk i)]) ∧ Sl w' u (pushI n lk L (q1, q2) i).length (fl (pushI n lk L (q1, q2) i)) (fun g => ok g ∨ w.heap.size ≤ g) ∧ Below w.heap.size w w' := by
  obtain ⟨hd, q⟩ := hR
  have hL : L.length ≤ 1000000 := by have := L_le q; omega
  by_cases h : okP n lk i = true
  · have h' := h
    unfold okP at h'
    simp only [Bool.and_eq_true, decide_eq_true_eq, Bool.not_eq_true'] at h'
    obtain ⟨⟨h0, h1⟩, h2⟩ := h'
    obtain ⟨j, rfl⟩ := Int.eq_ofNat_of_zero_le h0
    unfold pushI
    rw [if_pos h, h, Int.toNat_natCast]
    refine (rpush_yes L v ok w hv hL n q1 q2 j h1 (in_out q h2)).mono ?_
    rintro e w' ⟨u, rfl, hu, hb⟩
    exact ⟨u, rfl, (hu.mono fun g hg => .inr hg).cut (by simp) rfl, hb⟩
  · unfold pushI
    rw [if_neg h, Bool.eq_false_iff.2 h]
    have h' : i < 0 ∨ (n : Int) ≤ i ∨ ∃ p ∈ L, (p.2 : Int) = i := by
      by_cases h0 : i < 0
      · exact .inl h0
      · by_cases h1 : (n : Int) ≤ i
        · exact .inr (.inl h1)
        · obtain ⟨j, rfl⟩ := Int.eq_ofNat_of_zero_le (show 0 ≤ i by omega)
          refine .inr (.inr ?_)
          apply Classical.byContradiction
          intro hno
          exact h (okP_out q (by omega) fun p hp e => hno ⟨p, hp, by rw [e]⟩)
    refine (rpush_no L v ok w hv hL n q1 q2 i h').mono ?_
    rintro e w' ⟨rfl, hb⟩
    exact ⟨v, rfl, (hv.ext hb).mono fun g hg => .inl hg, hb⟩
theorem step_lt80 {j : Nat} (h : j < 80) : 80 - (intOf (.int .i64 ((j : Int) + 1))).toNat < 80 - (intOf (.int .i64 (j : Int))).toNat := by
  show 80 - ((j : Int) + 1).toNat < 80 - ((j : Int)).toNat
  omega
set_option maxHeartbeats 64000000 in
set_option maxRecDepth 100000 in
theorem ChainPlays_walk (rm : Int) (a : Option Addr) (len cap : Nat) (W : World) (_ : -9223372036854775808 ≤ rm) (_ : rm ≤ 9223372036854775807) (hf : Fit1 W (.slice actSh) (.slice a len cap)) :
    Calls Try.prog 5 #[.int .i64 rm, .slice a len cap] W fun e w' => e = .returned (.bool true) ∧ Below W.heap.size W w' := by
  have HFIT := Lib.hid (fun i (hi : i < len) => act_at hf hi)
  clear hf
  by_cases hbad : rm < 1 ∨ 4096 < rm
  · have e1 : decide (40 < rm) = false ∨ decide (rm ≤ 4096) = false := by
      rcases hbad with h | h
      · exact .inl (dec_f (by omega))
      · exact .inr (dec_f (by omega))
    have HBAD := Lib.hid hbad
    have fin : decide (40 < rm) = false ∨ (decide (40 < rm) = true ∧ decide (rm ≤ 4096) = false) := by
      rcases e1 with h | h
      · exact .inl h
      · cases hq : decide (40 < rm) with
        | true => exact .inr ⟨rfl, h⟩
        | false => exact .inl rfl
    have g2 : decide (rm < 1) = true ∨ (decide (rm < 1) = false ∧ decide (4096 < rm) = true) := by
      rcases hbad with h | h
      · exact .inl (dec_t h)
      · exact .inr ⟨dec_f (by omega), dec_t h⟩
    clear hbad e1
    rcases fin with d1 | ⟨d1, d2⟩ <;> rcases g2 with g1 | ⟨g1, g3⟩
    all_goals
      go_enter Try.func5, Try.ntmps5
      go_wp2_with (first | (go_at_call 7; refine (new_no rm _ HBAD.out).mono ?_; rintro e w1 ⟨rfl, hb1⟩) | (go_at_call 15; refine (known17 _).mono ?_; rintro e w2 ⟨rfl, hb2⟩))
      go_ret
      exact ⟨rfl, below_then hb1 hb2⟩
  · have HGD := Lib.hid (show 1 ≤ rm ∧ rm ≤ 4096 by omega)
    clear hbad
    by_cases h40 : 40 < rm
    · have d1 := dec_t h40
      have d2 : decide (rm ≤ 4096) = true := dec_t HGD.out.2
      clear h40
      go_enter Try.func5, Try.ntmps5
      go_upto_region 3 with fail
      obtain ⟨R, hR, R1, R2⟩ : ∃ R : Nat, (40 : Int) = (R : Int) ∧ 1 ≤ R ∧ R ≤ 40 := ⟨40, rfl, by omega, by omega⟩
      have hR4 : R ≤ 4096 := Nat.le_trans R2 (by decide)
      rw [hR]
      clear hR d1 d2
      have r1 : decide ((R : Int) < 1) = false := dec_f (by omega)
      have r2 : decide ((4096 : Int) < (R : Int)) = false := dec_f (by omega)
      go_upto_region 6 with (go_at_call 7; refine (new_any R _ R1 hR4).mono ?_; rintro e w1 ⟨b, bm, bl, rfl, hg, hA, hB⟩)
      have HG0 := Lib.hid hg
      have HA0 := Lib.hid hA
      have HB0 := Lib.hid hB
      clear hg hA hB
      go_upto_region 10 with fail
      go_loopw [5, 7, 8] (fun cv v i wr => ∃ (b bm bl : Nat) (L : List ((Int × Int) × Nat)) (lk : Nat → Lk (Int × Int)) (u : Value) (j : Nat), j ≤ 80 ∧ cv = .pointer (some ⟨b, 0, none⟩) ∧ u = v ∧ i = .int .i64 j ∧ ChAt wr b bm bl R L lk ∧ Sl wr u L.length (fl L) (fun g => ¬ S2 bm bl g) ∧ (W.heap.size ≤ b ∧ W.heap.size ≤ bm ∧ W.heap.size ≤ bl) ∧ Below W.heap.size W wr) (fun _ _ i _ => 80 - (intOf i).toNat)
      case atStart => exact ⟨b, bm, bl, [], _, _, 0, by omega, rfl, rfl, rfl, HA0.out, Sl.nil _ _, HG0.out, HB0.out⟩
      case round =>
        clear HA0 HB0 HG0
        obtain ⟨b, bm, bl, L, lk, u, j, hj, rfl, rfl, rfl, hA, hV, hg, hB⟩ := hrel
        have HG := Lib.hid hg
        have HL6 := Lib.hid (show L.length ≤ 1000000 by obtain ⟨hd, q⟩ := hA.rep; have := L_le q; omega)
        by_cases hlt : j < len ∧ j < 80
        · obtain ⟨hl1, hl2⟩ := hlt
          obtain ⟨ba, oa, k, n, k1, k2, rfl, hba, n0, n1, q0, q1, q2, q3⟩ := HFIT.out j hl1
          have qa0 := (hB.cell (p := ⟨ba, oa + j * 4, none⟩) hba).trans q0
          have qa1 := (hB.cell (p := ⟨ba, oa + j * 4 + 1, none⟩) hba).trans q1
          have qa2 := (hB.cell (p := ⟨ba, oa + j * 4 + 2, none⟩) hba).trans q2
          have qa3 := (hB.cell (p := ⟨ba, oa + j * 4 + 3, none⟩) hba).trans q3
          obtain ⟨bx, hbx⟩ : ∃ bx, wr.heap.size = bx := ⟨_, rfl⟩
          have hX' : RowAt (wr.alloc (.cells #[.int .i64 k, .int .i64 n, .int .i64 k1, .int .i64 k2] 30)) bx #[.int .i64 k, .int .i64 n, .int .i64 k1, .int .i64 k2] 30 := by rw [← hbx]; exact RowAt.new _ _ _
          have HA0 := Lib.hid (ChAt.ext hA (below_new (Below.refl _ _) (.cells #[.int .i64 k, .int .i64 n, .int .i64 k1, .int .i64 k2] 30)))
          have HV0 := Lib.hid (hV.ext (below_new (Below.refl _ _) (.cells #[.int .i64 k, .int .i64 n, .int .i64 k1, .int .i64 k2] 30)))
          have HB0 := Lib.hid (below_new hB (.cells #[.int .i64 k, .int .i64 n, .int .i64 k1, .int .i64 k2] 30))
          have HX0 := Lib.hid hX'
          have HNE := Lib.hid (show bm < bx ∧ bl < bx by have := hA.lts; omega)
          clear q0 q1 q2 q3 hA hB hX' hV hg
          have g1 : decide ((j : Int) < (len : Int)) = true := dec_t (by omega)
          have g1' : decide (j < len) = true := dec_t hl1
          have g80 : decide ((j : Int) < 80) = true := by simp; omega
          have hj0 : (j : Int) < (len : Int) := by omega
          go_upto_region 13 with fail
          refine wp_name (Pr := fun V => ChAt V b bm bl R L lk ∧ RowAt V bx #[.int .i64 k, .int .i64 n, .int .i64 k1, .int .i64 k2] 30 ∧ Sl V u L.length (fl L) (fun g => ¬ S2 bm bl g) ∧ Below W.heap.size W V) ⟨HA0.out, HX0.out, HV0.out, HB0.out⟩ ?_
          clear HA0 HB0 HX0 HV0 qa0 qa1 qa2 qa3 hbx
          rintro W2 ⟨hA, hX, hV, hB⟩
          have HA := Lib.hid hA
          have HX := Lib.hid hX
          have HV := Lib.hid hV
          have HB := Lib.hid hB
          clear hA hX hV hB
          have x0 := RowAt.cell HX.out (i := 0) rfl
          have x1 := RowAt.cell HX.out (i := 1) rfl
          have x2 := RowAt.cell HX.out (i := 2) rfl
          have x3 := RowAt.cell HX.out (i := 3) rfl
          by_cases k0 : k = 0
          · have d0 : (k == 0) = true := beq_t k0
            clear k0
            go_upto_region 16 with (go_at_call 19; refine (rpush_all R hR4 L lk HA.out.rep _ _ _ HV.out k1 k2 n).mono ?_; rintro e w3 ⟨u, rfl, hu, hb3⟩)
            have HA3 := Lib.hid (ChAt.ext HA.out hb3)
            have HX3 := Lib.hid (RowAt.ext HX.out hb3)
            have HB3 := Lib.hid (below_then HB.out hb3)
            have HLT := Lib.hid HA.out.lts
            have HU := Lib.hid (hu.mono (ok' := fun g => ¬ S2 bm bl g) fun g hg => by
              rcases hg with hg | hg
              · exact hg
              · have := HLT.out
                rintro (q | q) <;> omega)
            clear HA HX HB HV x0 x1 x2 x3 hu hb3
            have x1 := RowAt.cell HX3.out (i := 1) rfl
            have x2 := RowAt.cell HX3.out (i := 2) rfl
            have x3 := RowAt.cell HX3.out (i := 3) rfl
            have hbb : (okP R lk n != okP R lk n) = false := by simp
            go_upto_region 39 with (go_at_call 8; refine (push_all b bm bl R L lk _ HA3.out hR4 k1 k2 n).mono ?_; rintro e w4 ⟨rfl, ⟨lk4, hA4⟩, hO4⟩)
            have HA := Lib.hid hA4
            have HV := Lib.hid (HU.out.only hO4 fun g hg => hg)
            have HX := Lib.hid (RowAt.only HX3.out hO4 (by have := HNE.out; rintro (q | q) <;> omega))
            have HB := Lib.hid (only_new HB3.out hO4 HG.out.2.1 HG.out.2.2)
            clear HA3 HX3 HB3 HU hA4 hO4 x1 x2 x3 hbb
            have x0 := RowAt.cell HX.out (i := 0) rfl
            have x1 := RowAt.cell HX.out (i := 1) rfl
            have x2 := RowAt.cell HX.out (i := 2) rfl
            have x3 := RowAt.cell HX.out (i := 3) rfl
            go_upto_region 11 with (go_at_call 24; refine (alike_any b bm bl R _ lk4 _ HA.out hR4 _ _ HV.out k n k1 k2).mono ?_; rintro e w9 ⟨rfl, hb9⟩)
            go_wp2_with fail
            go_roundw
            case measure => exact step_lt80 hl2
            case rel => exact ⟨b, bm, bl, _, lk4, _, j + 1, by omega, rfl, rfl, by simp, ChAt.ext HA.out hb9, HV.out.ext hb9, HG.out, below_then HB.out hb9⟩
          · have d0 : (k == 0) = false := beq_f k0
            clear k0
            by_cases k1' : k = 1
            · have d3 : (k == 1) = true := beq_t k1'
              clear k1'
              have HFD := Lib.hid (rfind_any L _ _ W2 HV.out HL6.out n)
              go_upto_region 21 with (go_at_call 20; refine HFD.out.mono ?_; rintro e w3 ⟨r, rfl, hfp, rfl⟩; have hge : decide (0 ≤ r) = inB R lk n := (by obtain ⟨hd, q⟩ := HA.out.rep; rcases find_in q hfp with ⟨rfl, h⟩ | ⟨t, ht, rfl, h1, h2, h3⟩; (rw [h]; rfl); (rw [h2]; exact dec_t (by omega))); clear hfp)
              clear HFD
              have HRM := Lib.hid (rremove_any L _ _ W2 HV.out HL6.out n)
              go_upto_region 22 with (go_at_call 21; refine HRM.out.mono ?_; rintro e w4 ⟨u, rfl, hu, hb3⟩)
              rw [remI_eq] at hu
              have HA3 := Lib.hid (ChAt.ext HA.out hb3)
              have HX3 := Lib.hid (RowAt.ext HX.out hb3)
              have HB3 := Lib.hid (below_then HB.out hb3)
              have HLT := Lib.hid HA.out.lts
              have HU := Lib.hid (hu.mono (ok' := fun g => ¬ S2 bm bl g) fun g hg => by
                have := HLT.out
                rintro (q | q) <;> omega)
              clear HA HX HB HV HRM x0 x1 x2 x3 hu hb3
              have x1 := RowAt.cell HX3.out (i := 1) rfl
              have hbb : (inB R lk n != inB R lk n) = false := by simp
              go_upto_region 39 with (first | simp only [hge] | (go_at_call 9; refine (removeI_all b bm bl R L lk _ HA3.out hR4 n).mono ?_; rintro e w5 ⟨rfl, ⟨lk5, hA5⟩, hO5⟩))
              have HA := Lib.hid hA5
              have HV := Lib.hid (HU.out.only hO5 fun g hg => hg)
              have HX := Lib.hid (RowAt.only HX3.out hO5 (by have := HNE.out; rintro (q | q) <;> omega))
              have HB := Lib.hid (only_new HB3.out hO5 HG.out.2.1 HG.out.2.2)
              clear HA3 HX3 HB3 HU hA5 hO5 x1 hbb hge
              have x0 := RowAt.cell HX.out (i := 0) rfl
              have x1 := RowAt.cell HX.out (i := 1) rfl
              have x2 := RowAt.cell HX.out (i := 2) rfl
              have x3 := RowAt.cell HX.out (i := 3) rfl
              go_upto_region 11 with (go_at_call 24; refine (alike_any b bm bl R _ lk5 _ HA.out hR4 _ _ HV.out k n k1 k2).mono ?_; rintro e w9 ⟨rfl, hb9⟩)
              go_wp2_with fail
              go_roundw
              case measure => exact step_lt80 hl2
              case rel => exact ⟨b, bm, bl, _, lk5, _, j + 1, by omega, rfl, rfl, by simp, ChAt.ext HA.out hb9, HV.out.ext hb9, HG.out, below_then HB.out hb9⟩
            · have d3 : (k == 1) = false := beq_f k1'
              clear k1'
              by_cases k2' : k = 2
              · have d2 : (k == 2) = true := beq_t k2'
                clear k2'
                obtain ⟨F, hF⟩ : ∃ F, ofK L (k1, k2) = F := ⟨_, rfl⟩
                have HFE := Lib.hid hF
                have HFN := Lib.hid (show F.Nodup ∧ F.length ≤ R by obtain ⟨hd, q⟩ := HA.out.rep; exact ⟨hF ▸ ofK_nodup q.nd _, hF ▸ len_le q _⟩)
                have hra := rall_any L _ _ W2 HV.out HL6.out k1 k2
                rw [hF] at hra
                have HRA := Lib.hid hra
                clear hF hra
                go_upto_region 26 with (go_at_call 22; refine HRA.out.mono ?_; rintro e w3 ⟨u, rfl, hu, hb3⟩)
                clear HRA
                obtain ⟨pa, pc, rfl, hu⟩ := hu.len (n := F.length) (zs_len F)
                have HLT := Lib.hid HA.out.lts
                have HA3 := Lib.hid (ChAt.ext HA.out hb3)
                have HX3 := Lib.hid (RowAt.ext HX.out hb3)
                have HB3 := Lib.hid (below_then HB.out hb3)
                have HV3 := Lib.hid (HV.out.ext hb3)
                have HU3 := Lib.hid (hu.mono (ok' := fun g => ¬ S2 bm bl g) fun g hg => by have := HLT.out; rintro (q | q) <;> omega)
                clear HA HX HB HV x0 x1 x2 x3 hu hb3
                go_upto_region 27 with fail
                go_loopw [7, 14] (fun v z wr => ∃ t : Nat, z = .int .i64 t ∧ t ≤ F.length ∧ Sl wr v (dropAll L (F.take t)).length (fl (dropAll L (F.take t))) (fun g => ¬ S2 bm bl g) ∧ Below w3.heap.size w3 wr) (fun _ z _ => F.length - (intOf z).toNat)
                case atStart => exact ⟨0, rfl, by omega, HV3.out, Below.refl _ _⟩
                case round =>
                  obtain ⟨t, rfl, ht, hV, hBt⟩ := hrel
                  have HV := Lib.hid hV
                  have HBT := Lib.hid hBt
                  by_cases htl : t < F.length
                  · have d1 : decide ((t : Int) < (F.length : Int)) = true := dec_t (by omega)
                    have d1' : decide (t < F.length) = true := dec_t htl
                    obtain ⟨q, hq⟩ : ∃ q : Addr, pa = some q ∧ wr.cell? (q.add t) = some (.int .i64 ((F[t] : Nat) : Int)) := by
                      obtain ⟨a', c', e1, h4⟩ := Lst.sl (HU3.out.ext hBt)
                      rw [zs_len] at e1 h4
                      obtain ⟨q, q1, -, q4⟩ := h4 (by omega)
                      injection e1 with e1
                      exact ⟨q, e1.trans q1, q4 t _ (by simp [zs, htl])⟩
                    obtain ⟨rfl, hqc⟩ := hq
                    have hdl : (dropAll L (F.take t)).length ≤ 1000000 := Nat.le_trans (dropAll_le _ _) HL6.out
                    have HRM := Lib.hid (rremove_any _ _ _ wr hV hdl ((F[t] : Nat) : Int))
                    have HE := Lib.hid (show dropI (dropAll L (F.take t)) ((F[t] : Nat) : Int) = dropAll L (F.take (t + 1)) by rw [List.take_succ_eq_append_getElem htl, dropAll_snoc]; unfold dropI; rw [if_pos (by omega), Int.toNat_natCast])
                    have w1 := wrap_succ (show t ≤ 1000000 from Nat.le_trans (Nat.le_of_lt htl) (Nat.le_trans HFN.out.2 (Nat.le_trans R2 (by decide))))
                    have HW1 := Lib.hid w1
                    have hti : (t : Int) < (F.length : Int) := Int.ofNat_lt.2 htl
                    clear hV hBt hdl w1
                    go_wp2_with (go_at_call 21; refine HRM.out.mono ?_; rintro e w4 ⟨u, rfl, hu, hb4⟩)
                    go_roundw
                    case measure =>
                      rw [HW1.out]
                      exact step_lt htl
                    case rel =>
                      rw [remI_eq, HE.out] at hu
                      refine ⟨t + 1, by rw [HW1.out]; simp, by omega, hu.mono fun g hg => ?_, below_then HBT.out hb4⟩
                      have := (ChAt.ext HA3.out HBT.out).lts
                      rintro (q | q) <;> omega
                  · obtain rfl : t = F.length := by omega
                    have d1 : decide ((F.length : Int) < (F.length : Int)) = false := dec_f (by omega)
                    have d1' : decide (F.length < F.length) = false := dec_f (by omega)
                    rw [List.take_length] at hV
                    have HV4 := Lib.hid hV
                    have HA4 := Lib.hid (ChAt.ext HA3.out hBt)
                    have HX4 := Lib.hid (RowAt.ext HX3.out hBt)
                    have HB4 := Lib.hid (below_then HB3.out hBt)
                    have HU4 := Lib.hid (HU3.out.ext hBt)
                    have htk := take_any R hR4 b bm bl k1 k2 L lk _ HA4.out
                    rw [HFE.out] at htk
                    have HTK := Lib.hid htk
                    clear hV hBt HA3 HX3 HB3 HV3 HU3 HV HBT htl htk
                    have x2 := RowAt.cell HX4.out (i := 2) rfl
                    have x3 := RowAt.cell HX4.out (i := 3) rfl
                    go_upto_region 39 with (first | (go_at_call 17; refine HTK.out.mono ?_; rintro e w5 ⟨v5, rfl, hv5, ⟨lk5, hA5⟩, hO5⟩; have HV5 := Lib.hid hv5; have HU5 := Lib.hid (HU4.out.only hO5 fun g hg => hg); clear hv5) | (go_at_call 18; refine (same_any (F.map fun x : Nat => (x : Int)) (zs F) _ _ _ _ _ HV5.out HU5.out (by simp; have := HFN.out.2; omega) (by rw [zs_len]; have := HFN.out.2; omega)).mono ?_; rw [same_t (L := F.map fun x : Nat => (x : Int)) (M := zs F) rfl]; rintro e w6 ⟨rfl, hb6⟩))
                    have HA := Lib.hid (ChAt.ext hA5 hb6)
                    have HV := Lib.hid ((HV4.out.only hO5 fun g hg => hg).ext hb6)
                    have HX := Lib.hid (RowAt.ext (RowAt.only HX4.out hO5 (by have := HNE.out; rintro (q | q) <;> omega)) hb6)
                    have HB := Lib.hid (below_then (only_new HB4.out hO5 HG.out.2.1 HG.out.2.2) hb6)
                    clear HA4 HX4 HB4 HV4 HU4 HV5 HU5 HTK hA5 hO5 hb6 x2 x3 d1 d1'
                    have x0 := RowAt.cell HX.out (i := 0) rfl
                    have x1 := RowAt.cell HX.out (i := 1) rfl
                    have x2 := RowAt.cell HX.out (i := 2) rfl
                    have x3 := RowAt.cell HX.out (i := 3) rfl
                    go_upto_region 11 with (go_at_call 24; refine (alike_any b bm bl R _ lk5 _ HA.out hR4 _ _ HV.out k n k1 k2).mono ?_; rintro e w9 ⟨rfl, hb9⟩)
                    go_wp2_with fail
                    go_roundw
                    case measure => exact step_lt80 hl2
                    case rel => exact ⟨b, bm, bl, _, lk5, _, j + 1, by omega, rfl, rfl, by simp, ChAt.ext HA.out hb9, HV.out.ext hb9, HG.out, below_then HB.out hb9⟩
              · have d2 : (k == 2) = false := beq_f k2'
                clear k2'
                by_cases k3' : k = 3
                · have d4 : (k == 3) = true := beq_t k3'
                  clear k3'
                  go_upto_region 34 with (go_at_call 23; refine (copy_any b bm bl R L lk _ HA.out R1 hR4).mono ?_; rintro e w3 ⟨b', bm', bl', rfl, hg', hA', hb3⟩)
                  have HN := Lib.hid hA'
                  have HLT := Lib.hid HA.out.lts
                  have HA3 := Lib.hid (ChAt.ext HA.out hb3)
                  have HX3 := Lib.hid (RowAt.ext HX.out hb3)
                  have HB3 := Lib.hid (below_then HB.out hb3)
                  have HV3 := Lib.hid ((HV.out.here.ext hb3).mono (ok' := fun g => ¬ S2 bm bl g ∧ ¬ S2 bm' bl' g) fun g hg => ⟨hg.1, by have h1 := hg.2; have h2 := hg'; rintro (q | q) <;> omega⟩)
                  have HGG := Lib.hid (show (W.heap.size ≤ b' ∧ W.heap.size ≤ bm' ∧ W.heap.size ≤ bl') ∧ (bm < bm' ∧ bm < bl' ∧ bl < bm' ∧ bl < bl' ∧ bm < b' ∧ bl < b' ∧ bx < bm' ∧ bx < bl') by have h1 := hg'; have h2 := HB.out.size; have h3 := HLT.out; have h4 := HX.out.lt; omega)
                  clear HA HX HB HV x0 x1 x2 x3 hA' hb3 hg'
                  have x0 := RowAt.cell HX3.out (i := 0) rfl
                  have x1 := RowAt.cell HX3.out (i := 1) rfl
                  have x2 := RowAt.cell HX3.out (i := 2) rfl
                  have x3 := RowAt.cell HX3.out (i := 3) rfl
                  go_upto_region 36 with (go_at_call 24; refine (alike_any b' bm' bl' R L lk _ HN.out hR4 _ _ HV3.out k n k1 k2).mono ?_; rintro e w4 ⟨rfl, hb4⟩)
                  have HA4 := Lib.hid (ChAt.ext HA3.out hb4)
                  have HN4 := Lib.hid (ChAt.ext HN.out hb4)
                  have HX4 := Lib.hid (RowAt.ext HX3.out hb4)
                  have HB4 := Lib.hid (below_then HB3.out hb4)
                  have HV4 := Lib.hid (HV3.out.ext hb4)
                  clear HA3 HN HX3 HB3 HV3 hb4 x0 x1 x2 x3
                  have x2 := RowAt.cell HX4.out (i := 2) rfl
                  have x3 := RowAt.cell HX4.out (i := 3) rfl
                  go_upto_region 37 with (go_at_call 17; refine (take_any R hR4 b bm bl k1 k2 L lk _ HA4.out).mono ?_; rintro e w5 ⟨v5, rfl, -, ⟨lk5, hA5⟩, hO5⟩)
                  have HA5 := Lib.hid hA5
                  have HN5 := Lib.hid (ChAt.only HN4.out hO5 (by have := HGG.out; rintro (q | q) <;> omega) (by have := HGG.out; rintro (q | q) <;> omega) (by have := HGG.out; rintro (q | q) <;> omega))
                  have HX5 := Lib.hid (RowAt.only HX4.out hO5 (by have := HNE.out; rintro (q | q) <;> omega))
                  have HB5 := Lib.hid (only_new HB4.out hO5 HG.out.2.1 HG.out.2.2)
                  have HV5 := Lib.hid (HV4.out.only hO5 fun g hg => hg.1)
                  clear HA4 HN4 HX4 HB4 HV4 hA5 hO5 x2 x3
                  have x1 := RowAt.cell HX5.out (i := 1) rfl
                  have x2 := RowAt.cell HX5.out (i := 2) rfl
                  have x3 := RowAt.cell HX5.out (i := 3) rfl
                  go_upto_region 39 with (go_at_call 8; refine (push_all b bm bl R _ lk5 _ HA5.out hR4 k1 k2 n).mono ?_; rintro e w6 ⟨rfl, -, hO6⟩)
                  have HA := Lib.hid (ChAt.only HN5.out hO6 (by have := HGG.out; rintro (q | q) <;> omega) (by have := HGG.out; rintro (q | q) <;> omega) (by have := HGG.out; rintro (q | q) <;> omega))
                  have HX := Lib.hid (RowAt.only HX5.out hO6 (by have := HNE.out; rintro (q | q) <;> omega))
                  have HB := Lib.hid (only_new HB5.out hO6 HG.out.2.1 HG.out.2.2)
                  have HV := Lib.hid ((HV5.out.only hO6 fun g hg => hg.1).mono (ok' := fun g => ¬ S2 bm' bl' g) fun g hg => hg.2)
                  have HG2 := Lib.hid HGG.out.1
                  clear HA5 HN5 HX5 HB5 HV5 hO6 x1 x2 x3
                  have x0 := RowAt.cell HX.out (i := 0) rfl
                  have x1 := RowAt.cell HX.out (i := 1) rfl
                  have x2 := RowAt.cell HX.out (i := 2) rfl
                  have x3 := RowAt.cell HX.out (i := 3) rfl
                  go_upto_region 11 with (go_at_call 24; refine (alike_any b' bm' bl' R L lk _ HA.out hR4 _ _ HV.out k n k1 k2).mono ?_; rintro e w9 ⟨rfl, hb9⟩)
                  go_wp2_with fail
                  go_roundw
                  case measure => exact step_lt80 hl2
                  case rel => exact ⟨b', bm', bl', L, lk, _, j + 1, by omega, rfl, rfl, by simp, ChAt.ext HA.out hb9, HV.out.ext hb9, HG2.out, below_then HB.out hb9⟩
                · have d4 : (k == 3) = false := beq_f k3'
                  clear k3'
                  go_upto_region 39 with fail
                  go_upto_region 11 with (go_at_call 24; refine (alike_any b bm bl R L lk _ HA.out hR4 _ _ HV.out k n k1 k2).mono ?_; rintro e w9 ⟨rfl, hb9⟩)
                  go_wp2_with fail
                  go_roundw
                  case measure => exact step_lt80 hl2
                  case rel => exact ⟨b, bm, bl, L, lk, _, j + 1, by omega, rfl, rfl, by simp, ChAt.ext HA.out hb9, HV.out.ext hb9, HG.out, below_then HB.out hb9⟩
        · have dl : (decide (j < len) = false ∧ decide ((j : Int) < (len : Int)) = false) ∨ (decide ((j : Int) < 80) = false ∧ decide (j < len) = true ∧ decide ((j : Int) < (len : Int)) = true) := by
            by_cases h1 : j < len
            · exact .inr ⟨dec_f (by have : ¬ j < 80 := fun h => hlt ⟨h1, h⟩; omega), dec_t h1, dec_t (by omega)⟩
            · exact .inl ⟨dec_f h1, dec_f (by omega)⟩
          have HA := Lib.hid hA
          have HV := Lib.hid hV
          have HB := Lib.hid hB
          clear hA hV hg hlt
          have hB := trivial
          rcases dl with ⟨dl1, dl2⟩ | ⟨dl1, dl2, dl3⟩
          all_goals
            go_upto_region 42 with fail
            go_loopw [16] (fun i wr2 => ∃ s : Nat, s ≤ 80 ∧ i = .int .i64 s ∧ Below wr.heap.size wr wr2) (fun i _ => 80 - (intOf i).toNat)
            case atStart => exact ⟨0, by omega, rfl, Below.refl _ _⟩
            case round =>
              obtain ⟨s, hs, rfl, hB2⟩ := hrel
              have HB2 := Lib.hid hB2
              by_cases hlt2 : s < len ∧ s < 80
              · obtain ⟨hs1, hs2⟩ := hlt2
                obtain ⟨ba, oa, k, n, k1, k2, rfl, hba, n0, n1, q0, q1, q2, q3⟩ := HFIT.out s hs1
                have hBW := below_then HB.out hB2
                have qa0 := (hBW.cell (p := ⟨ba, oa + s * 4, none⟩) hba).trans q0
                have qa1 := (hBW.cell (p := ⟨ba, oa + s * 4 + 1, none⟩) hba).trans q1
                have qa2 := (hBW.cell (p := ⟨ba, oa + s * 4 + 2, none⟩) hba).trans q2
                have qa3 := (hBW.cell (p := ⟨ba, oa + s * 4 + 3, none⟩) hba).trans q3
                have h1 : decide ((s : Int) < (len : Int)) = true := dec_t (by omega)
                have h1' : decide (s < len) = true := dec_t hs1
                have h80 : decide ((s : Int) < 80) = true := by simp; omega
                have hs0 : (s : Int) < (len : Int) := by omega
                clear q0 q1 q2 q3 hB2 hBW
                go_wp2_with (go_at_call 24; refine (alike_any b bm bl R L lk _ (ChAt.ext HA.out HB2.out) hR4 _ _ (HV.out.ext HB2.out) k n k1 k2).mono ?_; rintro e w9 ⟨rfl, hb9⟩)
                go_roundw
                case measure => exact step_lt80 hs2
                case rel => exact ⟨s + 1, by omega, by simp, below_then HB2.out hb9⟩
              · have dm : (decide (s < len) = false ∧ decide ((s : Int) < (len : Int)) = false) ∨ (decide ((s : Int) < 80) = false ∧ decide (s < len) = true ∧ decide ((s : Int) < (len : Int)) = true) := by
                  by_cases h1 : s < len
                  · exact .inr ⟨dec_f (by have : ¬ s < 80 := fun h => hlt2 ⟨h1, h⟩; omega), dec_t h1, dec_t (by omega)⟩
                  · exact .inl ⟨dec_f h1, dec_f (by omega)⟩
                clear hlt2 hB2
                rcases dm with ⟨dm1, dm2⟩ | ⟨dm1, dm2, dm3⟩
                all_goals
                  go_wp2_with (go_at_call 15; refine (known17 _).mono ?_; rintro e w9 ⟨rfl, hb9⟩)
                  go_ret
                  exact ⟨rfl, below_then (below_then HB.out HB2.out) hb9⟩
    · have d1 := dec_f h40
      obtain ⟨R, rfl⟩ : ∃ R : Nat, rm = (R : Int) := ⟨rm.toNat, by have := HGD.out; omega⟩
      have R1 : 1 ≤ R := by have := HGD.out; omega
      have R2 : R ≤ 40 := by omega
      have hR4 : R ≤ 4096 := Nat.le_trans R2 (by decide)
      clear h40
      go_enter Try.func5, Try.ntmps5
      go_upto_region 3 with fail
      clear d1
      have r1 : decide ((R : Int) < 1) = false := dec_f (by omega)
      have r2 : decide ((4096 : Int) < (R : Int)) = false := dec_f (by omega)
      go_upto_region 6 with (go_at_call 7; refine (new_any R _ R1 hR4).mono ?_; rintro e w1 ⟨b, bm, bl, rfl, hg, hA, hB⟩)
      have HG0 := Lib.hid hg
      have HA0 := Lib.hid hA
      have HB0 := Lib.hid hB
      clear hg hA hB
      go_upto_region 10 with fail
      go_loopw [5, 7, 8] (fun cv v i wr => ∃ (b bm bl : Nat) (L : List ((Int × Int) × Nat)) (lk : Nat → Lk (Int × Int)) (u : Value) (j : Nat), j ≤ 80 ∧ cv = .pointer (some ⟨b, 0, none⟩) ∧ u = v ∧ i = .int .i64 j ∧ ChAt wr b bm bl R L lk ∧ Sl wr u L.length (fl L) (fun g => ¬ S2 bm bl g) ∧ (W.heap.size ≤ b ∧ W.heap.size ≤ bm ∧ W.heap.size ≤ bl) ∧ Below W.heap.size W wr) (fun _ _ i _ => 80 - (intOf i).toNat)
      case atStart => exact ⟨b, bm, bl, [], _, _, 0, by omega, rfl, rfl, rfl, HA0.out, Sl.nil _ _, HG0.out, HB0.out⟩
      case round =>
        clear HA0 HB0 HG0
        obtain ⟨b, bm, bl, L, lk, u, j, hj, rfl, rfl, rfl, hA, hV, hg, hB⟩ := hrel
        have HG := Lib.hid hg
        have HL6 := Lib.hid (show L.length ≤ 1000000 by obtain ⟨hd, q⟩ := hA.rep; have := L_le q; omega)
        by_cases hlt : j < len ∧ j < 80
        · obtain ⟨hl1, hl2⟩ := hlt
          obtain ⟨ba, oa, k, n, k1, k2, rfl, hba, n0, n1, q0, q1, q2, q3⟩ := HFIT.out j hl1
          have qa0 := (hB.cell (p := ⟨ba, oa + j * 4, none⟩) hba).trans q0
          have qa1 := (hB.cell (p := ⟨ba, oa + j * 4 + 1, none⟩) hba).trans q1
          have qa2 := (hB.cell (p := ⟨ba, oa + j * 4 + 2, none⟩) hba).trans q2
          have qa3 := (hB.cell (p := ⟨ba, oa + j * 4 + 3, none⟩) hba).trans q3
          obtain ⟨bx, hbx⟩ : ∃ bx, wr.heap.size = bx := ⟨_, rfl⟩
          have hX' : RowAt (wr.alloc (.cells #[.int .i64 k, .int .i64 n, .int .i64 k1, .int .i64 k2] 30)) bx #[.int .i64 k, .int .i64 n, .int .i64 k1, .int .i64 k2] 30 := by rw [← hbx]; exact RowAt.new _ _ _
          have HA0 := Lib.hid (ChAt.ext hA (below_new (Below.refl _ _) (.cells #[.int .i64 k, .int .i64 n, .int .i64 k1, .int .i64 k2] 30)))
          have HV0 := Lib.hid (hV.ext (below_new (Below.refl _ _) (.cells #[.int .i64 k, .int .i64 n, .int .i64 k1, .int .i64 k2] 30)))
          have HB0 := Lib.hid (below_new hB (.cells #[.int .i64 k, .int .i64 n, .int .i64 k1, .int .i64 k2] 30))
          have HX0 := Lib.hid hX'
          have HNE := Lib.hid (show bm < bx ∧ bl < bx by have := hA.lts; omega)
          clear q0 q1 q2 q3 hA hB hX' hV hg
          have g1 : decide ((j : Int) < (len : Int)) = true := dec_t (by omega)
          have g1' : decide (j < len) = true := dec_t hl1
          have g80 : decide ((j : Int) < 80) = true := by simp; omega
          have hj0 : (j : Int) < (len : Int) := by omega
          go_upto_region 13 with fail
          refine wp_name (Pr := fun V => ChAt V b bm bl R L lk ∧ RowAt V bx #[.int .i64 k, .int .i64 n, .int .i64 k1, .int .i64 k2] 30 ∧ Sl V u L.length (fl L) (fun g => ¬ S2 bm bl g) ∧ Below W.heap.size W V) ⟨HA0.out, HX0.out, HV0.out, HB0.out⟩ ?_
          clear HA0 HB0 HX0 HV0 qa0 qa1 qa2 qa3 hbx
          rintro W2 ⟨hA, hX, hV, hB⟩
          have HA := Lib.hid hA
          have HX := Lib.hid hX
          have HV := Lib.hid hV
          have HB := Lib.hid hB
          clear hA hX hV hB
          have x0 := RowAt.cell HX.out (i := 0) rfl
          have x1 := RowAt.cell HX.out (i := 1) rfl
          have x2 := RowAt.cell HX.out (i := 2) rfl
          have x3 := RowAt.cell HX.out (i := 3) rfl
          by_cases k0 : k = 0
          · have d0 : (k == 0) = true := beq_t k0
            clear k0
            go_upto_region 16 with (go_at_call 19; refine (rpush_all R hR4 L lk HA.out.rep _ _ _ HV.out k1 k2 n).mono ?_; rintro e w3 ⟨u, rfl, hu, hb3⟩)
            have HA3 := Lib.hid (ChAt.ext HA.out hb3)
            have HX3 := Lib.hid (RowAt.ext HX.out hb3)
            have HB3 := Lib.hid (below_then HB.out hb3)
            have HLT := Lib.hid HA.out.lts
            have HU := Lib.hid (hu.mono (ok' := fun g => ¬ S2 bm bl g) fun g hg => by
              rcases hg with hg | hg
              · exact hg
              · have := HLT.out
                rintro (q | q) <;> omega)
            clear HA HX HB HV x0 x1 x2 x3 hu hb3
            have x1 := RowAt.cell HX3.out (i := 1) rfl
            have x2 := RowAt.cell HX3.out (i := 2) rfl
            have x3 := RowAt.cell HX3.out (i := 3) rfl
            have hbb : (okP R lk n != okP R lk n) = false := by simp
            go_upto_region 39 with (go_at_call 8; refine (push_all b bm bl R L lk _ HA3.out hR4 k1 k2 n).mono ?_; rintro e w4 ⟨rfl, ⟨lk4, hA4⟩, hO4⟩)
            have HA := Lib.hid hA4
            have HV := Lib.hid (HU.out.only hO4 fun g hg => hg)
            have HX := Lib.hid (RowAt.only HX3.out hO4 (by have := HNE.out; rintro (q | q) <;> omega))
            have HB := Lib.hid (only_new HB3.out hO4 HG.out.2.1 HG.out.2.2)
            clear HA3 HX3 HB3 HU hA4 hO4 x1 x2 x3 hbb
            have x0 := RowAt.cell HX.out (i := 0) rfl
            have x1 := RowAt.cell HX.out (i := 1) rfl
            have x2 := RowAt.cell HX.out (i := 2) rfl
            have x3 := RowAt.cell HX.out (i := 3) rfl
            go_upto_region 11 with (go_at_call 24; refine (alike_any b bm bl R _ lk4 _ HA.out hR4 _ _ HV.out k n k1 k2).mono ?_; rintro e w9 ⟨rfl, hb9⟩)
            go_wp2_with fail
            go_roundw
            case measure => exact step_lt80 hl2
            case rel => exact ⟨b, bm, bl, _, lk4, _, j + 1, by omega, rfl, rfl, by simp, ChAt.ext HA.out hb9, HV.out.ext hb9, HG.out, below_then HB.out hb9⟩
          · have d0 : (k == 0) = false := beq_f k0
            clear k0
            by_cases k1' : k = 1
            · have d3 : (k == 1) = true := beq_t k1'
              clear k1'
              have HFD := Lib.hid (rfind_any L _ _ W2 HV.out HL6.out n)
              go_upto_region 21 with (go_at_call 20; refine HFD.out.mono ?_; rintro e w3 ⟨r, rfl, hfp, rfl⟩; have hge : decide (0 ≤ r) = inB R lk n := (by obtain ⟨hd, q⟩ := HA.out.rep; rcases find_in q hfp with ⟨rfl, h⟩ | ⟨t, ht, rfl, h1, h2, h3⟩; (rw [h]; rfl); (rw [h2]; exact dec_t (by omega))); clear hfp)
              clear HFD
              have HRM := Lib.hid (rremove_any L _ _ W2 HV.out HL6.out n)
              go_upto_region 22 with (go_at_call 21; refine HRM.out.mono ?_; rintro e w4 ⟨u, rfl, hu, hb3⟩)
              rw [remI_eq] at hu
              have HA3 := Lib.hid (ChAt.ext HA.out hb3)
              have HX3 := Lib.hid (RowAt.ext HX.out hb3)
              have HB3 := Lib.hid (below_then HB.out hb3)
              have HLT := Lib.hid HA.out.lts
              have HU := Lib.hid (hu.mono (ok' := fun g => ¬ S2 bm bl g) fun g hg => by
                have := HLT.out
                rintro (q | q) <;> omega)
              clear HA HX HB HV HRM x0 x1 x2 x3 hu hb3
              have x1 := RowAt.cell HX3.out (i := 1) rfl
              have hbb : (inB R lk n != inB R lk n) = false := by simp
              go_upto_region 39 with (first | simp only [hge] | (go_at_call 9; refine (removeI_all b bm bl R L lk _ HA3.out hR4 n).mono ?_; rintro e w5 ⟨rfl, ⟨lk5, hA5⟩, hO5⟩))
              have HA := Lib.hid hA5
              have HV := Lib.hid (HU.out.only hO5 fun g hg => hg)
              have HX := Lib.hid (RowAt.only HX3.out hO5 (by have := HNE.out; rintro (q | q) <;> omega))
              have HB := Lib.hid (only_new HB3.out hO5 HG.out.2.1 HG.out.2.2)
              clear HA3 HX3 HB3 HU hA5 hO5 x1 hbb hge
              have x0 := RowAt.cell HX.out (i := 0) rfl
              have x1 := RowAt.cell HX.out (i := 1) rfl
              have x2 := RowAt.cell HX.out (i := 2) rfl
              have x3 := RowAt.cell HX.out (i := 3) rfl
              go_upto_region 11 with (go_at_call 24; refine (alike_any b bm bl R _ lk5 _ HA.out hR4 _ _ HV.out k n k1 k2).mono ?_; rintro e w9 ⟨rfl, hb9⟩)
              go_wp2_with fail
              go_roundw
              case measure => exact step_lt80 hl2
              case rel => exact ⟨b, bm, bl, _, lk5, _, j + 1, by omega, rfl, rfl, by simp, ChAt.ext HA.out hb9, HV.out.ext hb9, HG.out, below_then HB.out hb9⟩
            · have d3 : (k == 1) = false := beq_f k1'
              clear k1'
              by_cases k2' : k = 2
              · have d2 : (k == 2) = true := beq_t k2'
                clear k2'
                obtain ⟨F, hF⟩ : ∃ F, ofK L (k1, k2) = F := ⟨_, rfl⟩
                have HFE := Lib.hid hF
                have HFN := Lib.hid (show F.Nodup ∧ F.length ≤ R by obtain ⟨hd, q⟩ := HA.out.rep; exact ⟨hF ▸ ofK_nodup q.nd _, hF ▸ len_le q _⟩)
                have hra := rall_any L _ _ W2 HV.out HL6.out k1 k2
                rw [hF] at hra
                have HRA := Lib.hid hra
                clear hF hra
                go_upto_region 26 with (go_at_call 22; refine HRA.out.mono ?_; rintro e w3 ⟨u, rfl, hu, hb3⟩)
                clear HRA
                obtain ⟨pa, pc, rfl, hu⟩ := hu.len (n := F.length) (zs_len F)
                have HLT := Lib.hid HA.out.lts
                have HA3 := Lib.hid (ChAt.ext HA.out hb3)
                have HX3 := Lib.hid (RowAt.ext HX.out hb3)
                have HB3 := Lib.hid (below_then HB.out hb3)
                have HV3 := Lib.hid (HV.out.ext hb3)
                have HU3 := Lib.hid (hu.mono (ok' := fun g => ¬ S2 bm bl g) fun g hg => by have := HLT.out; rintro (q | q) <;> omega)
                clear HA HX HB HV x0 x1 x2 x3 hu hb3
                go_upto_region 27 with fail
                go_loopw [7, 14] (fun v z wr => ∃ t : Nat, z = .int .i64 t ∧ t ≤ F.length ∧ Sl wr v (dropAll L (F.take t)).length (fl (dropAll L (F.take t))) (fun g => ¬ S2 bm bl g) ∧ Below w3.heap.size w3 wr) (fun _ z _ => F.length - (intOf z).toNat)
                case atStart => exact ⟨0, rfl, by omega, HV3.out, Below.refl _ _⟩
                case round =>
                  obtain ⟨t, rfl, ht, hV, hBt⟩ := hrel
                  have HV := Lib.hid hV
                  have HBT := Lib.hid hBt
                  by_cases htl : t < F.length
                  · have d1 : decide ((t : Int) < (F.length : Int)) = true := dec_t (by omega)
                    have d1' : decide (t < F.length) = true := dec_t htl
                    obtain ⟨q, hq⟩ : ∃ q : Addr, pa = some q ∧ wr.cell? (q.add t) = some (.int .i64 ((F[t] : Nat) : Int)) := by
                      obtain ⟨a', c', e1, h4⟩ := Lst.sl (HU3.out.ext hBt)
                      rw [zs_len] at e1 h4
                      obtain ⟨q, q1, -, q4⟩ := h4 (by omega)
                      injection e1 with e1
                      exact ⟨q, e1.trans q1, q4 t _ (by simp [zs, htl])⟩
                    obtain ⟨rfl, hqc⟩ := hq
                    have hdl : (dropAll L (F.take t)).length ≤ 1000000 := Nat.le_trans (dropAll_le _ _) HL6.out
                    have HRM := Lib.hid (rremove_any _ _ _ wr hV hdl ((F[t] : Nat) : Int))
                    have HE := Lib.hid (show dropI (dropAll L (F.take t)) ((F[t] : Nat) : Int) = dropAll L (F.take (t + 1)) by rw [List.take_succ_eq_append_getElem htl, dropAll_snoc]; unfold dropI; rw [if_pos (by omega), Int.toNat_natCast])
                    have w1 := wrap_succ (show t ≤ 1000000 from Nat.le_trans (Nat.le_of_lt htl) (Nat.le_trans HFN.out.2 (Nat.le_trans R2 (by decide))))
                    have HW1 := Lib.hid w1
                    have hti : (t : Int) < (F.length : Int) := Int.ofNat_lt.2 htl
                    clear hV hBt hdl w1
                    go_wp2_with (go_at_call 21; refine HRM.out.mono ?_; rintro e w4 ⟨u, rfl, hu, hb4⟩)
                    go_roundw
                    case measure =>
                      rw [HW1.out]
                      exact step_lt htl
                    case rel =>
                      rw [remI_eq, HE.out] at hu
                      refine ⟨t + 1, by rw [HW1.out]; simp, by omega, hu.mono fun g hg => ?_, below_then HBT.out hb4⟩
                      have := (ChAt.ext HA3.out HBT.out).lts
                      rintro (q | q) <;> omega
                  · obtain rfl : t = F.length := by omega
                    have d1 : decide ((F.length : Int) < (F.length : Int)) = false := dec_f (by omega)
                    have d1' : decide (F.length < F.length) = false := dec_f (by omega)
                    rw [List.take_length] at hV
                    have HV4 := Lib.hid hV
                    have HA4 := Lib.hid (ChAt.ext HA3.out hBt)
                    have HX4 := Lib.hid (RowAt.ext HX3.out hBt)
                    have HB4 := Lib.hid (below_then HB3.out hBt)
                    have HU4 := Lib.hid (HU3.out.ext hBt)
                    have htk := take_any R hR4 b bm bl k1 k2 L lk _ HA4.out
                    rw [HFE.out] at htk
                    have HTK := Lib.hid htk
                    clear hV hBt HA3 HX3 HB3 HV3 HU3 HV HBT htl htk
                    have x2 := RowAt.cell HX4.out (i := 2) rfl
                    have x3 := RowAt.cell HX4.out (i := 3) rfl
                    go_upto_region 39 with (first | (go_at_call 17; refine HTK.out.mono ?_; rintro e w5 ⟨v5, rfl, hv5, ⟨lk5, hA5⟩, hO5⟩; have HV5 := Lib.hid hv5; have HU5 := Lib.hid (HU4.out.only hO5 fun g hg => hg); clear hv5) | (go_at_call 18; refine (same_any (F.map fun x : Nat => (x : Int)) (zs F) _ _ _ _ _ HV5.out HU5.out (by simp; have := HFN.out.2; omega) (by rw [zs_len]; have := HFN.out.2; omega)).mono ?_; rw [same_t (L := F.map fun x : Nat => (x : Int)) (M := zs F) rfl]; rintro e w6 ⟨rfl, hb6⟩))
                    have HA := Lib.hid (ChAt.ext hA5 hb6)
                    have HV := Lib.hid ((HV4.out.only hO5 fun g hg => hg).ext hb6)
                    have HX := Lib.hid (RowAt.ext (RowAt.only HX4.out hO5 (by have := HNE.out; rintro (q | q) <;> omega)) hb6)
                    have HB := Lib.hid (below_then (only_new HB4.out hO5 HG.out.2.1 HG.out.2.2) hb6)
                    clear HA4 HX4 HB4 HV4 HU4 HV5 HU5 HTK hA5 hO5 hb6 x2 x3 d1 d1'
                    have x0 := RowAt.cell HX.out (i := 0) rfl
                    have x1 := RowAt.cell HX.out (i := 1) rfl
                    have x2 := RowAt.cell HX.out (i := 2) rfl
                    have x3 := RowAt.cell HX.out (i := 3) rfl
                    go_upto_region 11 with (go_at_call 24; refine (alike_any b bm bl R _ lk5 _ HA.out hR4 _ _ HV.out k n k1 k2).mono ?_; rintro e w9 ⟨rfl, hb9⟩)
                    go_wp2_with fail
                    go_roundw
                    case measure => exact step_lt80 hl2
                    case rel => exact ⟨b, bm, bl, _, lk5, _, j + 1, by omega, rfl, rfl, by simp, ChAt.ext HA.out hb9, HV.out.ext hb9, HG.out, below_then HB.out hb9⟩
              · have d2 : (k == 2) = false := beq_f k2'
                clear k2'
                by_cases k3' : k = 3
                · have d4 : (k == 3) = true := beq_t k3'
                  clear k3'
                  go_upto_region 34 with (go_at_call 23; refine (copy_any b bm bl R L lk _ HA.out R1 hR4).mono ?_; rintro e w3 ⟨b', bm', bl', rfl, hg', hA', hb3⟩)
                  have HN := Lib.hid hA'
                  have HLT := Lib.hid HA.out.lts
                  have HA3 := Lib.hid (ChAt.ext HA.out hb3)
                  have HX3 := Lib.hid (RowAt.ext HX.out hb3)
                  have HB3 := Lib.hid (below_then HB.out hb3)
                  have HV3 := Lib.hid ((HV.out.here.ext hb3).mono (ok' := fun g => ¬ S2 bm bl g ∧ ¬ S2 bm' bl' g) fun g hg => ⟨hg.1, by have h1 := hg.2; have h2 := hg'; rintro (q | q) <;> omega⟩)
                  have HGG := Lib.hid (show (W.heap.size ≤ b' ∧ W.heap.size ≤ bm' ∧ W.heap.size ≤ bl') ∧ (bm < bm' ∧ bm < bl' ∧ bl < bm' ∧ bl < bl' ∧ bm < b' ∧ bl < b' ∧ bx < bm' ∧ bx < bl') by have h1 := hg'; have h2 := HB.out.size; have h3 := HLT.out; have h4 := HX.out.lt; omega)
                  clear HA HX HB HV x0 x1 x2 x3 hA' hb3 hg'
                  have x0 := RowAt.cell HX3.out (i := 0) rfl
                  have x1 := RowAt.cell HX3.out (i := 1) rfl
                  have x2 := RowAt.cell HX3.out (i := 2) rfl
                  have x3 := RowAt.cell HX3.out (i := 3) rfl
                  go_upto_region 36 with (go_at_call 24; refine (alike_any b' bm' bl' R L lk _ HN.out hR4 _ _ HV3.out k n k1 k2).mono ?_; rintro e w4 ⟨rfl, hb4⟩)
                  have HA4 := Lib.hid (ChAt.ext HA3.out hb4)
                  have HN4 := Lib.hid (ChAt.ext HN.out hb4)
                  have HX4 := Lib.hid (RowAt.ext HX3.out hb4)
                  have HB4 := Lib.hid (below_then HB3.out hb4)
                  have HV4 := Lib.hid (HV3.out.ext hb4)
                  clear HA3 HN HX3 HB3 HV3 hb4 x0 x1 x2 x3
                  have x2 := RowAt.cell HX4.out (i := 2) rfl
                  have x3 := RowAt.cell HX4.out (i := 3) rfl
                  go_upto_region 37 with (go_at_call 17; refine (take_any R hR4 b bm bl k1 k2 L lk _ HA4.out).mono ?_; rintro e w5 ⟨v5, rfl, -, ⟨lk5, hA5⟩, hO5⟩)
                  have HA5 := Lib.hid hA5
                  have HN5 := Lib.hid (ChAt.only HN4.out hO5 (by have := HGG.out; rintro (q | q) <;> omega) (by have := HGG.out; rintro (q | q) <;> omega) (by have := HGG.out; rintro (q | q) <;> omega))
                  have HX5 := Lib.hid (RowAt.only HX4.out hO5 (by have := HNE.out; rintro (q | q) <;> omega))
                  have HB5 := Lib.hid (only_new HB4.out hO5 HG.out.2.1 HG.out.2.2)
                  have HV5 := Lib.hid (HV4.out.only hO5 fun g hg => hg.1)
                  clear HA4 HN4 HX4 HB4 HV4 hA5 hO5 x2 x3
                  have x1 := RowAt.cell HX5.out (i := 1) rfl
                  have x2 := RowAt.cell HX5.out (i := 2) rfl
                  have x3 := RowAt.cell HX5.out (i := 3) rfl
                  go_upto_region 39 with (go_at_call 8; refine (push_all b bm bl R _ lk5 _ HA5.out hR4 k1 k2 n).mono ?_; rintro e w6 ⟨rfl, -, hO6⟩)
                  have HA := Lib.hid (ChAt.only HN5.out hO6 (by have := HGG.out; rintro (q | q) <;> omega) (by have := HGG.out; rintro (q | q) <;> omega) (by have := HGG.out; rintro (q | q) <;> omega))
                  have HX := Lib.hid (RowAt.only HX5.out hO6 (by have := HNE.out; rintro (q | q) <;> omega))
                  have HB := Lib.hid (only_new HB5.out hO6 HG.out.2.1 HG.out.2.2)
                  have HV := Lib.hid ((HV5.out.only hO6 fun g hg => hg.1).mono (ok' := fun g => ¬ S2 bm' bl' g) fun g hg => hg.2)
                  have HG2 := Lib.hid HGG.out.1
                  clear HA5 HN5 HX5 HB5 HV5 hO6 x1 x2 x3
                  have x0 := RowAt.cell HX.out (i := 0) rfl
                  have x1 := RowAt.cell HX.out (i := 1) rfl
                  have x2 := RowAt.cell HX.out (i := 2) rfl
                  have x3 := RowAt.cell HX.out (i := 3) rfl
                  go_upto_region 11 with (go_at_call 24; refine (alike_any b' bm' bl' R L lk _ HA.out hR4 _ _ HV.out k n k1 k2).mono ?_; rintro e w9 ⟨rfl, hb9⟩)
                  go_wp2_with fail
                  go_roundw
                  case measure => exact step_lt80 hl2
                  case rel => exact ⟨b', bm', bl', L, lk, _, j + 1, by omega, rfl, rfl, by simp, ChAt.ext HA.out hb9, HV.out.ext hb9, HG2.out, below_then HB.out hb9⟩
                · have d4 : (k == 3) = false := beq_f k3'
                  clear k3'
                  go_upto_region 39 with fail
                  go_upto_region 11 with (go_at_call 24; refine (alike_any b bm bl R L lk _ HA.out hR4 _ _ HV.out k n k1 k2).mono ?_; rintro e w9 ⟨rfl, hb9⟩)
                  go_wp2_with fail
                  go_roundw
                  case measure => exact step_lt80 hl2
                  case rel => exact ⟨b, bm, bl, L, lk, _, j + 1, by omega, rfl, rfl, by simp, ChAt.ext HA.out hb9, HV.out.ext hb9, HG.out, below_then HB.out hb9⟩
        · have dl : (decide (j < len) = false ∧ decide ((j : Int) < (len : Int)) = false) ∨ (decide ((j : Int) < 80) = false ∧ decide (j < len) = true ∧ decide ((j : Int) < (len : Int)) = true) := by
            by_cases h1 : j < len
            · exact .inr ⟨dec_f (by have : ¬ j < 80 := fun h => hlt ⟨h1, h⟩; omega), dec_t h1, dec_t (by omega)⟩
            · exact .inl ⟨dec_f h1, dec_f (by omega)⟩
          have HA := Lib.hid hA
          have HV := Lib.hid hV
          have HB := Lib.hid hB
          clear hA hV hg hlt
          have hB := trivial
          rcases dl with ⟨dl1, dl2⟩ | ⟨dl1, dl2, dl3⟩
          all_goals
            go_upto_region 42 with fail
            go_loopw [16] (fun i wr2 => ∃ s : Nat, s ≤ 80 ∧ i = .int .i64 s ∧ Below wr.heap.size wr wr2) (fun i _ => 80 - (intOf i).toNat)
            case atStart => exact ⟨0, by omega, rfl, Below.refl _ _⟩
            case round =>
              obtain ⟨s, hs, rfl, hB2⟩ := hrel
              have HB2 := Lib.hid hB2
              by_cases hlt2 : s < len ∧ s < 80
              · obtain ⟨hs1, hs2⟩ := hlt2
                obtain ⟨ba, oa, k, n, k1, k2, rfl, hba, n0, n1, q0, q1, q2, q3⟩ := HFIT.out s hs1
                have hBW := below_then HB.out hB2
                have qa0 := (hBW.cell (p := ⟨ba, oa + s * 4, none⟩) hba).trans q0
                have qa1 := (hBW.cell (p := ⟨ba, oa + s * 4 + 1, none⟩) hba).trans q1
                have qa2 := (hBW.cell (p := ⟨ba, oa + s * 4 + 2, none⟩) hba).trans q2
                have qa3 := (hBW.cell (p := ⟨ba, oa + s * 4 + 3, none⟩) hba).trans q3
                have h1 : decide ((s : Int) < (len : Int)) = true := dec_t (by omega)
                have h1' : decide (s < len) = true := dec_t hs1
                have h80 : decide ((s : Int) < 80) = true := by simp; omega
                have hs0 : (s : Int) < (len : Int) := by omega
                clear q0 q1 q2 q3 hB2 hBW
                go_wp2_with (go_at_call 24; refine (alike_any b bm bl R L lk _ (ChAt.ext HA.out HB2.out) hR4 _ _ (HV.out.ext HB2.out) k n k1 k2).mono ?_; rintro e w9 ⟨rfl, hb9⟩)
                go_roundw
                case measure => exact step_lt80 hs2
                case rel => exact ⟨s + 1, by omega, by simp, below_then HB2.out hb9⟩
              · have dm : (decide (s < len) = false ∧ decide ((s : Int) < (len : Int)) = false) ∨ (decide ((s : Int) < 80) = false ∧ decide (s < len) = true ∧ decide ((s : Int) < (len : Int)) = true) := by
                  by_cases h1 : s < len
                  · exact .inr ⟨dec_f (by have : ¬ s < 80 := fun h => hlt2 ⟨h1, h⟩; omega), dec_t h1, dec_t (by omega)⟩
                  · exact .inl ⟨dec_f h1, dec_f (by omega)⟩
                clear hlt2 hB2
                rcases dm with ⟨dm1, dm2⟩ | ⟨dm1, dm2, dm3⟩
                all_goals
                  go_wp2_with (go_at_call 15; refine (known17 _).mono ?_; rintro e w9 ⟨rfl, hb9⟩)
                  go_ret
                  exact ⟨rfl, below_then (below_then HB.out HB2.out) hb9⟩
end Go.Proofs.Ytelnembjcgkiaaa
