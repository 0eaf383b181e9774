/- Windows, and which times hit them: SlackOf. -/
import Derived.Test.YtdhgcmodlikckaaSkG
import Derived.Deep.DeepCutAuto
namespace Go.Proofs.Ytdhgcmodlikckaa
open Go.RowKit
set_option linter.unusedVariables false
set_option linter.unusedSimpArgs false
open Go.Deep
theorem neq_w (a b : Int) (w : World) : (binOp .neq 53 (.agg #[.int .u64 a, .int .u64 b]) (.agg #[.int .u64 a, .int .u64 b])).run Try.prog w = .ok (.bool false) w := by
  go_simp
theorem add_facts (d m : Int) (d0 : 0 ≤ d) (d1 : d ≤ 18446744073709551615) (m0 : 0 ≤ m) : d ≤ addI d m := by
  unfold addI
  split <;> omega
set_option maxHeartbeats 16000000 in
set_option maxRecDepth 100000 in
theorem SlackOf_walk (d m : Int) (a : Option Addr) (len cap : Nat) (t : Int) (W : World) (d0 : 0 ≤ d) (d1 : d ≤ 18446744073709551615) (m0 : 0 ≤ m) (m1 : m ≤ 18446744073709551615) (hf : Fit1 W (.slice winSh) (.slice a len cap)) (t0 : 0 ≤ t) (t1 : t ≤ 18446744073709551615) :
    Calls Try.prog 10 #[.int .u64 d, .int .u64 m, .slice a len cap, .int .u64 t] W fun e w' => e = .returned (.bool true) ∧ Below W.heap.size W w' := by
  obtain ⟨hc, hm⟩ := fit_le hf
  have HCUT := cut_any a len cap W hc hm
  obtain ⟨N, hN⟩ : ∃ N, min len 60 = N := ⟨_, rfl⟩
  rw [hN] at HCUT
  obtain ⟨Lw, hL, hw⟩ := win_of hf N (by omega)
  have HW0 := Lib.hid (hw cap)
  have HN60 := Lib.hid (show N ≤ 60 by omega)
  have HLL := Lib.hid hL
  have HCU := Lib.hid HCUT
  obtain ⟨Z, hZ⟩ : ∃ Z, addI d m = Z := ⟨_, rfl⟩
  have HZD := Lib.hid (show d ≤ Z from hZ ▸ add_facts d m d0 d1 m0)
  have hof := fun w => of_any d m w d0 d1 m0 m1
  have hra := fun w => radd_any d m w d0 d1 m0 m1
  simp only [hZ] at hof hra
  have HOF := Lib.hid hof
  have HRA := Lib.hid hra
  clear hc hm HCUT hN hL hw hf hZ hof hra
  go_enter Try.func10, Try.ntmps10
  go_upto_region 2 with (go_at_call 26; refine HCU.out.mono ?_; rintro e w1 ⟨rfl, hb1⟩)
  have HB1 := Lib.hid hb1
  clear hb1 HCU
  go_upto_region 3 with (go_at_call 35; refine (HOF.out _).mono ?_; rintro e w2 ⟨rfl, hb2⟩)
  refine wp_name (Pr := fun V => RowAt V w2.heap.size #[.int .u64 d, .int .u64 Z] 53 ∧ Below W.heap.size W V) ⟨RowAt.new w2 _ _, below_new (below_then HB1.out hb2) _⟩ ?_
  clear HB1 hb2 HOF
  rintro V ⟨hx, hB⟩
  have HX := Lib.hid hx
  have HB := Lib.hid hB
  have hsp := split_win Lw (.slice a N cap) V (HW0.out.ext hB) (by rw [HLL.out]; have := HN60.out; omega) t
  rw [HLL.out] at hsp
  have HSP := Lib.hid hsp
  clear hx hB hsp
  go_upto_region 4 with (go_at_call 36; refine HSP.out.mono ?_; rintro e w3 ⟨p, q, rfl, hT, hb3⟩)
  have hboth := hL_both (hitB Lw t) N
  obtain ⟨BV, hBV⟩ : ∃ BV, V.heap.size = BV := ⟨_, rfl⟩
  rw [hBV] at hT
  clear hBV
  obtain ⟨H, hH⟩ : ∃ H, hitL (hitB Lw t) N = H := ⟨_, rfl⟩
  obtain ⟨O, hO⟩ : ∃ O, hitL (fun i => !hitB Lw t i) N = O := ⟨_, rfl⟩
  rw [hH, hO] at hT hboth
  obtain ⟨ah, ch, rfl⟩ := own_slice hT.h
  obtain ⟨ao, co, rfl⟩ := own_slice hT.o
  obtain ⟨hn, hhn⟩ : ∃ hn, H.length = hn := ⟨_, rfl⟩
  obtain ⟨on, hon⟩ : ∃ on, O.length = on := ⟨_, rfl⟩
  rw [hhn, hon] at hT
  have HT := Lib.hid hT
  have HHH := Lib.hid hH
  have HOO := Lib.hid hO
  have HHN := Lib.hid hhn
  have HON := Lib.hid hon
  rw [hhn, hon] at hboth
  rw [hhn, hon]
  have HBT := Lib.hid hboth
  have HB3 := Lib.hid (below_then HB.out hb3)
  have HX3 := Lib.hid (RowAt.ext HX.out hb3)
  clear hT hboth hH hO hhn hon hb3 HB HX HSP
  obtain ⟨hkX, _⟩ := Ext.cells HX3.out
  have s0 : ∀ y : Ext w3.heap.size w3, y.world.cell? ⟨w2.heap.size, 0, none⟩ = some (.int .u64 d) := fun y => hkX y 0
  have s1 : ∀ y : Ext w3.heap.size w3, y.world.cell? ⟨w2.heap.size, 1, none⟩ = some (.int .u64 Z) := fun y => hkX y 1
  have hq := neq_w d Z
  have hr := fun y : Ext w3.heap.size w3 => right_any d Z y.world
  have hh := fun y : Ext w3.heap.size w3 => hits_any d d Z y.world
  have hme := fun y : Ext w3.heap.size w3 => meet_any d Z d Z y.world
  have e1 : decide (d ≤ Z) = true := dec_t HZD.out
  have e2 : decide (d ≤ d) = true := dec_t (Int.le_refl _)
  have e3 : decide (max d d ≤ min Z Z) = true := by rw [Int.max_self, Int.min_self]; exact e1
  simp only [e1] at hr
  simp only [e1, e2, Bool.and_self] at hh
  simp only [e3] at hme
  have HR := Lib.hid hr
  have HH := Lib.hid hh
  have HM := Lib.hid hme
  have wsum : wrap64 ((hn : Int) + (on : Int)) = (N : Int) := by have h1 := HBT.out; have h2 := HN60.out; unfold wrap64; omega
  have nNN : ((N : Int) != (N : Int)) = false := by simp
  clear hkX hr hh hme e1 e2 e3
  refine wp_start (w := w3) ?_
  intro z0
  refine wp_region_ext _ (by kernel_rfl) (by kernel_rfl) ?_
  repeat (go_big_quiet_step (first | (go_at_call 37; exact Ext.call (HRA.out _)) | (go_at_call 32; exact Ext.call (HR.out _)) | (go_at_call 33; exact Ext.call (HH.out _)) | (go_at_call 34; exact Ext.call (HM.out _))))
  refine wpQuiet_nil ?_
  rintro _ ⟨y, rfl⟩
  dsimp only [Exit.then]
  refine k_name (Pr := fun V => RowAt V w2.heap.size #[.int .u64 d, .int .u64 Z] 53 ∧ Two V BV (.slice ah hn ch) (.slice ao on co) H O ∧ Below W.heap.size W V) ⟨RowAt.ext HX3.out y.ok, HT.out.ext y.ok, below_then HB3.out y.ok⟩ ?_
  clear s0 s1 hq HR HH HM wsum nNN HT HX3 HB3 HRA
  rintro V4 ⟨hx, hT, hB⟩
  have HX := Lib.hid hx
  have HT := Lib.hid hT
  have HB := Lib.hid hB
  clear hx hT hB
  go_at_K
  go_wp2_with fail
  go_loopw [12, 13, 14] (fun u v z wr => ∃ j : Nat, z = .int .i64 j ∧ j ≤ N ∧ u = .int .i64 ((hitL (hitB Lw t) j).length : Int) ∧ v = .int .i64 ((hitL (fun i => !hitB Lw t i) j).length : Int) ∧ Below V4.heap.size V4 wr) (fun _ _ z _ => N - (intOf z).toNat)
  case atStart => exact ⟨0, rfl, by omega, rfl, rfl, Below.refl _ _⟩
  case round =>
    obtain ⟨j, rfl, hj, rfl, rfl, hBr⟩ := hrel
    have HBR := Lib.hid hBr
    by_cases hlt : j < N
    · have g1 : decide ((j : Int) < (N : Int)) = true := dec_t (by omega)
      have hjl : j < Lw.length := by rw [HLL.out]; exact hlt
      obtain ⟨⟨a1, b1⟩, hp⟩ : ∃ p, Lw[j] = p := ⟨_, rfl⟩
      obtain ⟨g, o, ha, hg, hc2, hc3⟩ : ∃ g o, a = some ⟨g, o, none⟩ ∧ g < W.heap.size ∧ W.cell? ⟨g, o + j * 2, none⟩ = some (.int .u64 a1) ∧ W.cell? ⟨g, o + j * 2 + 1, none⟩ = some (.int .u64 b1) := by
        obtain ⟨a', c', e1, h4⟩ := HW0.out
        obtain ⟨g, o, q1, q2, q3⟩ := h4 (by omega)
        injection e1 with e1
        have := q3 j hjl
        rw [hp] at this
        exact ⟨g, o, e1.trans q1, q2, this⟩
      subst ha
      have hBW := below_then HB.out hBr
      have c0 : wr.cell? ⟨w2.heap.size, 0, none⟩ = some (.int .u64 d) := (RowAt.ext HX.out hBr).cell (i := 0) rfl
      have c1 : wr.cell? ⟨w2.heap.size, 1, none⟩ = some (.int .u64 Z) := (RowAt.ext HX.out hBr).cell (i := 1) rfl
      have c2 := (hBW.cell (p := ⟨g, o + j * 2, none⟩) hg).trans hc2
      have c3 := (hBW.cell (p := ⟨g, o + j * 2 + 1, none⟩) hg).trans hc3
      have hji : (j : Int) < (N : Int) := by omega
      have hj0 : (0 : Int) ≤ (j : Int) := by omega
      have w1' := wrap_succ (show j ≤ 1000000 by have := HN60.out; omega)
      have HW1 := Lib.hid w1'
      have hhb := hitB_at hjl hp t
      obtain ⟨M, hM⟩ : ∃ M, decide (max d a1 ≤ min Z b1) = M := ⟨_, rfl⟩
      have hMM : (M != M) = false := by simp
      have hjj : ((j : Int) != (j : Int)) = false := by simp
      clear hBr hBW hc2 hc3 hp hg
      cases hf : hitB Lw t j with
      | true =>
        rw [hf] at hhb
        have hd := hhb.symm
        rw [Bool.and_eq_true] at hd
        obtain ⟨d1, d2⟩ := hd
        obtain ⟨hce, hcl⟩ := hL_at (f := hitB Lw t) hf hlt
        rw [HHH.out] at hce hcl
        obtain ⟨gh, hgh, hcc⟩ : ∃ g, ah = some ⟨g, 0, none⟩ ∧ V4.cell? ⟨g, (hitL (hitB Lw t) j).length, none⟩ = some (.int .i64 (j : Int)) := by
          obtain ⟨g, c, e1, -, -, -, -, h5⟩ := own_int HT.out.h (by omega)
          injection e1 with e1
          exact ⟨g, e1, h5 _ _ hce⟩
        subst hgh
        have hxl : ((hitL (hitB Lw t) j).length : Int) < (hn : Int) := by rw [← HHN.out]; omega
        obtain ⟨xx, hxx⟩ : ∃ xx, (hitL (hitB Lw t) j).length = xx := ⟨_, rfl⟩
        have HXX := Lib.hid hxx
        have HCC := Lib.hid hcc
        rw [hxx] at hxl
        rw [hxx]
        have g2 : decide ((hn : Int) ≤ (xx : Int)) = false := dec_f (by omega)
        have hx0 : (0 : Int) ≤ (xx : Int) := by omega
        have HXW := Lib.hid (wrap_succ (show xx ≤ 1000000 by have h1 := hL_le (hitB Lw t) j; have h2 := HN60.out; omega))
        have HF := Lib.hid hf
        clear hhb hce hcl hcc hxx hf w1'
        have HHT := Lib.hid (fun y : Ext wr.heap.size wr => hits_any t a1 b1 y.world)
        have hht := HHT.out
        simp only [d1, d2, Bool.and_self, Bool.and_false, Bool.false_and] at hht
        have HHU := Lib.hid hht
        have HME := Lib.hid (fun y : Ext wr.heap.size wr => meet_any d Z a1 b1 y.world)
        have hme := HME.out
        simp only [hM] at hme
        have HMU := Lib.hid hme
        have s0 : ∀ y : Ext wr.heap.size wr, y.world.cell? ⟨w2.heap.size, 0, none⟩ = some (.int .u64 d) := fun y => y.cell c0
        have s1 : ∀ y : Ext wr.heap.size wr, y.world.cell? ⟨w2.heap.size, 1, none⟩ = some (.int .u64 Z) := fun y => y.cell c1
        have s2 : ∀ y : Ext wr.heap.size wr, y.world.cell? ⟨g, o + j * 2, none⟩ = some (.int .u64 a1) := fun y => y.cell c2
        have s3 : ∀ y : Ext wr.heap.size wr, y.world.cell? ⟨g, o + j * 2 + 1, none⟩ = some (.int .u64 b1) := fun y => y.cell c3
        have HC23 := Lib.hid (And.intro c2 c3)
        clear hht hme HHT HME
        go_upto_region 11 with fail
        clear c0 c1 c2 c3
        refine wp_start (w := wr) ?_
        intro z1
        refine wp_region_ext _ (by kernel_rfl) (by kernel_rfl) ?_
        repeat (go_big_quiet_step (first | (go_at_call 33; exact Ext.call (HHU.out _)) | (go_at_call 34; exact Ext.call (HMU.out _))))
        refine wpQuiet_nil ?_
        rintro _ ⟨y1, rfl⟩
        have HYB := Lib.hid (below_then HBR.out y1.ok)
        clear s0 s1 s2 s3 HHU HMU HC23
        have c4 : y1.world.cell? ⟨gh, xx, none⟩ = some (.int .i64 (j : Int)) := by rw [← HXX.out]; exact (HYB.out.cell (p := ⟨gh, _, none⟩) (World.block_lt_of_cell? _ _ HCC.out)).trans HCC.out
        have w1' := HW1.out
        have w2' := HXW.out
        go_wp2_with fail
        go_roundw
        case measure => rw [HW1.out]; exact step_lt hlt
        case rel => exact ⟨j + 1, by rw [HW1.out]; simp, by omega, by rw [(hL_yes HF.out).2, HXX.out, HXW.out]; simp, by rw [hL_no (f := fun i => !hitB Lw t i) (by simp [HF.out])], HYB.out⟩
      | false =>
        rw [hf] at hhb
        have hd : decide (a1 ≤ t) = false ∨ (decide (a1 ≤ t) = true ∧ decide (t ≤ b1) = false) := by
          revert hhb
          cases decide (a1 ≤ t) <;> cases decide (t ≤ b1) <;> simp
        obtain ⟨hce, hcl⟩ := hL_at (f := fun i => !hitB Lw t i) (i := j) (by simp [hf]) hlt
        rw [HOO.out] at hce hcl
        obtain ⟨gh, hgh, hcc⟩ : ∃ g, ao = some ⟨g, 0, none⟩ ∧ V4.cell? ⟨g, (hitL (fun i => !hitB Lw t i) j).length, none⟩ = some (.int .i64 (j : Int)) := by
          obtain ⟨g, c, e1, -, -, -, -, h5⟩ := own_int HT.out.o (by omega)
          injection e1 with e1
          exact ⟨g, e1, h5 _ _ hce⟩
        subst hgh
        have hxl : ((hitL (fun i => !hitB Lw t i) j).length : Int) < (on : Int) := by rw [← HON.out]; omega
        obtain ⟨xx, hxx⟩ : ∃ xx, (hitL (fun i => !hitB Lw t i) j).length = xx := ⟨_, rfl⟩
        have HXX := Lib.hid hxx
        have HCC := Lib.hid hcc
        rw [hxx] at hxl
        rw [hxx]
        have g2 : decide ((on : Int) ≤ (xx : Int)) = false := dec_f (by omega)
        have hx0 : (0 : Int) ≤ (xx : Int) := by omega
        have HXW := Lib.hid (wrap_succ (show xx ≤ 1000000 by have h1 := hL_le (fun i => !hitB Lw t i) j; have h2 := HN60.out; omega))
        have HF := Lib.hid hf
        clear hhb hce hcl hcc hxx hf w1'
        rcases hd with d1 | ⟨d1, d2⟩
        · have HHT := Lib.hid (fun y : Ext wr.heap.size wr => hits_any t a1 b1 y.world)
          have hht := HHT.out
          simp only [d1, Bool.and_self, Bool.and_false, Bool.false_and] at hht
          have HHU := Lib.hid hht
          have HME := Lib.hid (fun y : Ext wr.heap.size wr => meet_any d Z a1 b1 y.world)
          have hme := HME.out
          simp only [hM] at hme
          have HMU := Lib.hid hme
          have s0 : ∀ y : Ext wr.heap.size wr, y.world.cell? ⟨w2.heap.size, 0, none⟩ = some (.int .u64 d) := fun y => y.cell c0
          have s1 : ∀ y : Ext wr.heap.size wr, y.world.cell? ⟨w2.heap.size, 1, none⟩ = some (.int .u64 Z) := fun y => y.cell c1
          have s2 : ∀ y : Ext wr.heap.size wr, y.world.cell? ⟨g, o + j * 2, none⟩ = some (.int .u64 a1) := fun y => y.cell c2
          have s3 : ∀ y : Ext wr.heap.size wr, y.world.cell? ⟨g, o + j * 2 + 1, none⟩ = some (.int .u64 b1) := fun y => y.cell c3
          have HC23 := Lib.hid (And.intro c2 c3)
          clear hht hme HHT HME
          go_upto_region 11 with fail
          clear c0 c1 c2 c3
          refine wp_start (w := wr) ?_
          intro z1
          refine wp_region_ext _ (by kernel_rfl) (by kernel_rfl) ?_
          repeat (go_big_quiet_step (first | (go_at_call 33; exact Ext.call (HHU.out _)) | (go_at_call 34; exact Ext.call (HMU.out _))))
          refine wpQuiet_nil ?_
          rintro _ ⟨y1, rfl⟩
          have HYB := Lib.hid (below_then HBR.out y1.ok)
          clear s0 s1 s2 s3 HHU HMU HC23
          have c4 : y1.world.cell? ⟨gh, xx, none⟩ = some (.int .i64 (j : Int)) := by rw [← HXX.out]; exact (HYB.out.cell (p := ⟨gh, _, none⟩) (World.block_lt_of_cell? _ _ HCC.out)).trans HCC.out
          have w1' := HW1.out
          have w2' := HXW.out
          go_wp2_with fail
          go_roundw
          case measure => rw [HW1.out]; exact step_lt hlt
          case rel => exact ⟨j + 1, by rw [HW1.out]; simp, by omega, by rw [hL_no HF.out], by rw [(hL_yes (f := fun i => !hitB Lw t i) (n := j) (by simp [HF.out])).2, HXX.out, HXW.out]; simp, HYB.out⟩
        · have HHT := Lib.hid (fun y : Ext wr.heap.size wr => hits_any t a1 b1 y.world)
          have hht := HHT.out
          simp only [d1, d2, Bool.and_self, Bool.and_false, Bool.false_and] at hht
          have HHU := Lib.hid hht
          have HME := Lib.hid (fun y : Ext wr.heap.size wr => meet_any d Z a1 b1 y.world)
          have hme := HME.out
          simp only [hM] at hme
          have HMU := Lib.hid hme
          have s0 : ∀ y : Ext wr.heap.size wr, y.world.cell? ⟨w2.heap.size, 0, none⟩ = some (.int .u64 d) := fun y => y.cell c0
          have s1 : ∀ y : Ext wr.heap.size wr, y.world.cell? ⟨w2.heap.size, 1, none⟩ = some (.int .u64 Z) := fun y => y.cell c1
          have s2 : ∀ y : Ext wr.heap.size wr, y.world.cell? ⟨g, o + j * 2, none⟩ = some (.int .u64 a1) := fun y => y.cell c2
          have s3 : ∀ y : Ext wr.heap.size wr, y.world.cell? ⟨g, o + j * 2 + 1, none⟩ = some (.int .u64 b1) := fun y => y.cell c3
          have HC23 := Lib.hid (And.intro c2 c3)
          clear hht hme HHT HME
          go_upto_region 11 with fail
          clear c0 c1 c2 c3
          refine wp_start (w := wr) ?_
          intro z1
          refine wp_region_ext _ (by kernel_rfl) (by kernel_rfl) ?_
          repeat (go_big_quiet_step (first | (go_at_call 33; exact Ext.call (HHU.out _)) | (go_at_call 34; exact Ext.call (HMU.out _))))
          refine wpQuiet_nil ?_
          rintro _ ⟨y1, rfl⟩
          have HYB := Lib.hid (below_then HBR.out y1.ok)
          clear s0 s1 s2 s3 HHU HMU HC23
          have c4 : y1.world.cell? ⟨gh, xx, none⟩ = some (.int .i64 (j : Int)) := by rw [← HXX.out]; exact (HYB.out.cell (p := ⟨gh, _, none⟩) (World.block_lt_of_cell? _ _ HCC.out)).trans HCC.out
          have w1' := HW1.out
          have w2' := HXW.out
          go_wp2_with fail
          go_roundw
          case measure => rw [HW1.out]; exact step_lt hlt
          case rel => exact ⟨j + 1, by rw [HW1.out]; simp, by omega, by rw [hL_no HF.out], by rw [(hL_yes (f := fun i => !hitB Lw t i) (n := j) (by simp [HF.out])).2, HXX.out, HXW.out]; simp, HYB.out⟩
    · obtain rfl : j = N := by omega
      have g1 : decide ((j : Int) < (j : Int)) = false := dec_f (by omega)
      clear hBr
      go_wp2_with (go_at_call 30; refine (known32 _).mono ?_; rintro e w9 ⟨rfl, hb9⟩; have HB9 := Lib.hid hb9; clear hb9)
      go_ret
      exact ⟨rfl, below_then (below_then HB.out HBR.out) HB9.out⟩
end Go.Proofs.Ytdhgcmodlikckaa
