/- What Left says: the walk of the law RtcLeft. -/
import Derived.Test.YtdhgcmodlikckaaRtcJ
import Derived.Test.YtdhgcmodlikckaaRtcK
namespace Go.Proofs.Ytdhgcmodlikckaa
open Go.RowKit
set_option linter.unusedVariables false
set_option linter.unusedSimpArgs false
set_option maxHeartbeats 40000000 in
set_option maxRecDepth 100000 in
theorem RtcLeft_walk (dv : Int) (a : Option Addr) (len cap : Nat) (x y : Int) (W : World) (d0 : 0 ≤ dv) (d1 : dv ≤ 4294967295) (hf : Fit1 W (.slice actSh) (.slice a len cap)) (x0 : 0 ≤ x) (x1 : x ≤ 18446744073709551615) (y0 : 0 ≤ y) (y1 : y ≤ 18446744073709551615) :
    Calls Try.prog 5 #[.int .u32 dv, .slice a len cap, .int .u64 x, .int .u64 y] W fun e w' => e = .returned (.bool true) ∧ Below W.heap.size W w' := by
  have HFIT := Lib.hid (fun i (hi : i < len) => act_at hf hi)
  clear hf
  by_cases hz : dv = 0
  · subst hz
    have ok0 : (⟨0, 0, 0, 0, false, false, 1⟩ : St).ok := by constructor <;> dsimp only <;> omega
    go_enter Try.func5, Try.ntmps5
    go_wp2_with fail
    refine (new_any 1 _ (by omega) (by omega)).mono ?_
    rintro e w1 ⟨b, rfl, hb, hR, hB1⟩
    have hblt : b < w1.heap.size := RowAt.lt hR
    obtain ⟨bm, hbm⟩ : ∃ bm, w1.heap.size = bm := ⟨_, rfl⟩
    go_wp2_with fail
    refine wp_name (Pr := fun W' => RtcAt W' b (⟨0, 0, 0, 0, false, false, 1⟩ : St) ∧ RowAt W' bm #[.int .u32 (⟨0, 0, 0, 0, false, false, 1⟩ : St).div, .int .u32 (⟨0, 0, 0, 0, false, false, 1⟩ : St).rest, .int .u32 (⟨0, 0, 0, 0, false, false, 1⟩ : St).set, .int .u64 (⟨0, 0, 0, 0, false, false, 1⟩ : St).sec, .int .u32 ((⟨0, 0, 0, 0, false, false, 1⟩ : St).alarm % 4294967296), .int .u32 ((⟨0, 0, 0, 0, false, false, 1⟩ : St).alarm / 4294967296), .bool (⟨0, 0, 0, 0, false, false, 1⟩ : St).en, .bool (⟨0, 0, 0, 0, false, false, 1⟩ : St).ra] 36 ∧ Below W.heap.size W W') ⟨RowAt.alloc hR _, by rw [← hbm]; exact RowAt.new _ _ _, below_new hB1 _⟩ ?_
    have hbne : b ≠ bm := by omega
    have hbmW : W.heap.size ≤ bm := by have := hB1.size; omega
    clear hbm hblt hR hB1
    rintro W2 ⟨hR, hM, hB⟩
    go_loopw [9, 12] (fun r i wr => ∃ (b : Nat) (s : St) (j : Nat), j ≤ 30 ∧ r = .pointer (some ⟨b, 0, none⟩) ∧ i = .int .i64 j ∧ s.ok ∧ RtcAt wr b s ∧ RowAt wr bm #[.int .u32 s.div, .int .u32 s.rest, .int .u32 s.set, .int .u64 s.sec, .int .u32 (s.alarm % 4294967296), .int .u32 (s.alarm / 4294967296), .bool s.en, .bool s.ra] 36 ∧ W.heap.size ≤ b ∧ b ≠ bm ∧ Below W.heap.size W wr) (fun _ i _ => 30 - (intOf i).toNat)
    case atStart => exact ⟨b, _, 0, by omega, rfl, rfl, ok0, hR, hM, hb, hbne, hB⟩
    case round =>
      clear hR hM hB ok0 hb hbne
      obtain ⟨b, s, j, hj, rfl, rfl, ok, hR, hM, hb, hbne, hB⟩ := hrel
      by_cases hlt : j < len ∧ j < 30
      · obtain ⟨hl1, hl2⟩ := hlt
        obtain ⟨ba, oa, k, n, off, v, rfl, hba, n0, n1, o0, o1, v0, v1, q0, q1, q2, q3⟩ := HFIT.out j hl1
        have hDO := Lib.hid (fun (w : World) (h : RtcAt w b s) => do_any b s ok k n off v w n0 n1 o0 o1 v0 v1 h)
        have qa0 := (hB.cell (p := ⟨ba, oa + j * 4, none⟩) hba).trans q0
        have qa1 := (hB.cell (p := ⟨ba, oa + j * 4 + 1, none⟩) hba).trans q1
        have qa2 := (hB.cell (p := ⟨ba, oa + j * 4 + 2, none⟩) hba).trans q2
        have qa3 := (hB.cell (p := ⟨ba, oa + j * 4 + 3, none⟩) hba).trans q3
        have HR := Lib.hid hR
        have HB := Lib.hid hB
        clear q0 q1 q2 q3 ok hR hB
        have c0 := hM.cell (i := 0) rfl
        have c1 := hM.cell (i := 1) rfl
        have c2 := hM.cell (i := 2) rfl
        have c3 := hM.cell (i := 3) rfl
        have c4 := hM.cell (i := 4) rfl
        have c5 := hM.cell (i := 5) rfl
        have c6 := hM.cell (i := 6) rfl
        have c7 := hM.cell (i := 7) rfl
        have fz := rowFz hM
        have g30 : decide ((j : Int) < 30) = true := by simp; omega
        go_upto_region 9 with (fail)
        go_region_with (go_at_call 19; refine (hDO.out _ (RowAt.drew HR.out)).mono ?_; rintro e wx ⟨b2, s2, rfl, ok2, hR2, hor, hFx⟩; have hMx := RowAt.but (RowAt.drew hM) hFx (Ne.symm hbne); have c0 := hMx.cell (i := 0) rfl; have c1 := hMx.cell (i := 1) rfl; have c2 := hMx.cell (i := 2) rfl; have c3 := hMx.cell (i := 3) rfl; have c4 := hMx.cell (i := 4) rfl; have c5 := hMx.cell (i := 5) rfl; have c6 := hMx.cell (i := 6) rfl; have c7 := hMx.cell (i := 7) rfl; have fz := rowFz hMx; have hok2 := Lib.hid ok2; have hhR2 := Lib.hid hR2; have hhFx := Lib.hid hFx; have hhor := Lib.hid hor; have hMM := Lib.hid hMx; clear ok2 hR2 hFx hor hMx)
        all_goals (
          have hB3 := But.below HB.out ((But.drew (But.refl b wr)).trans hhFx.out) hb HB.out.size
          have hbml := hM.lt
          have hb2W : W.heap.size ≤ b2 := by have q1 := hhor.out; have q2 := HB.out.size; clear hhFx hhR2 hMM hok2; (first | (simp only [World.drew] at q1; omega) | omega)
          have hb2m : b2 ≠ bm := by have q1 := hhor.out; clear hhFx hhR2 hMM hok2; (first | (simp only [World.drew] at q1; omega) | omega)
          dsimp only [Exit.then]
          refine k_name (Pr := fun W' => RowAt W' bm #[.int .u32 s2.div, .int .u32 s2.rest, .int .u32 s2.set, .int .u64 s2.sec, .int .u32 (s2.alarm % 4294967296), .int .u32 (s2.alarm / 4294967296), .bool s2.en, .bool s2.ra] 36 ∧ RtcAt W' b2 s2 ∧ Below W.heap.size W W') ⟨RowAt.set8 hMM.out _ _ _ _ _ _ _ _, (RowAt.other (RowAt.other (RowAt.other (RowAt.other (RowAt.other (RowAt.other (RowAt.other (RowAt.other hhR2.out hb2m _) hb2m _) hb2m _) hb2m _) hb2m _) hb2m _) hb2m _) hb2m _), below_set (below_set (below_set (below_set (below_set (below_set (below_set (below_set hB3 hbmW _) hbmW _) hbmW _) hbmW _) hbmW _) hbmW _) hbmW _) hbmW _⟩ ?_
          rintro W3 ⟨R3, hR3, hB5⟩
          clear hM c0 c1 c2 c3 c4 c5 c6 c7 fz qa0 qa1 qa2 qa3 hMM hhR2 hhFx hhor hB3 HB HR hDO hbml
          have hR4 := Lib.hid hR3
          have hB6 := Lib.hid hB5
          have R4 := Lib.hid R3
          clear hR3 hB5 R3
          go_at_K
          go_wp2_with fail
          go_roundw
          · exact ⟨b2, s2, j + 1, by omega, rfl, by simp, hok2.out, hR4.out, R4.out, hb2W, hb2m, hB6.out⟩
          · simp only [intOf]; omega)
      · by_cases h1 : j < len
        · have hj30 : j = 30 := by omega
          have g30 : decide ((j : Int) < 30) = false := by simp; omega
          by_cases hm : s.metB = true
          · clear HFIT hM hlt
            have hx0 : 0 ≤ x % 4611686018427387904 := by omega
            have hx1 : x % 4611686018427387904 ≤ 4611686018427387903 := by omega
            have hy0 : 0 ≤ y % 4611686018427387904 := by omega
            have hy1 : y % 4611686018427387904 ≤ 4611686018427387903 := by omega
            have hWb := hb
            replace hB := Lib.hid hB
            go_wp2_with fail
            have lt0 := RowAt.lt hR
            refine (copy_any b s _ hR).mono ?_
            rintro e w1 ⟨bx, rfl, hbx, hRx, hb'⟩
            have nx : bx ≠ b := by omega
            have hWbx : W.heap.size ≤ bx := by have := hB.out.size; omega
            replace hR := RtcAt.ext hR hb'
            replace hB := Lib.hid (below_then hB.out hb')
            clear hb' hbx lt0
            go_wp2_with fail
            have lt0 := RowAt.lt hR
            have lt1 := RowAt.lt hRx
            refine (copy_any b s _ hR).mono ?_
            rintro e w2 ⟨bY, rfl, hbY, hRy, hb'⟩
            have ny : bY ≠ b := by omega
            have nxy : bY ≠ bx := by omega
            have hWbY : W.heap.size ≤ bY := by have := hB.out.size; omega
            replace hR := RtcAt.ext hR hb'
            replace hRx := RtcAt.ext hRx hb'
            replace hB := Lib.hid (below_then hB.out hb')
            clear hb' hbY lt0 lt1
            go_wp2_with fail
            generalize x % 4611686018427387904 = X at *
            generalize y % 4611686018427387904 = Y at *
            clear x0 x1 y0 y1
            have okX := St.tr_ok s ok X (by omega) (by omega)
            have okT := St.tr_ok s ok (X + Y) (by omega) (by omega)
            have eT := St.tr_tr s ok X Y (by omega) (by omega) (by omega)
            refine (tick_any bx s ok X _ (by omega) (by omega) hRx).mono ?_
            rintro e w' ⟨rfl, hq, hf'⟩
            replace hq : RtcAt w' bx (s.tr X) := hq
            replace hR := RowAt.but hR hf' (Ne.symm nx)
            replace hRy := RowAt.but hRy hf' nxy
            replace hB := Lib.hid (But.below hB.out hf' hWbx hB.out.size)
            clear hRx hf'
            have hRx := hq
            clear hq
            go_wp2_with fail
            refine (tick_any bx (s.tr X) okX Y _ (by omega) (by omega) hRx).mono ?_
            rintro e w' ⟨rfl, hq, hf'⟩
            replace hq : RtcAt w' bx ((s.tr X).tr Y) := hq
            replace hR := RowAt.but hR hf' (Ne.symm nx)
            replace hRy := RowAt.but hRy hf' nxy
            replace hB := Lib.hid (But.below hB.out hf' hWbx hB.out.size)
            clear hRx hf'
            have hRx := hq
            clear hq
            rw [eT] at hRx
            clear eT
            go_wp2_with fail
            refine (tick_any bY s ok (X + Y) _ (by omega) (by omega) hRy).mono ?_
            rintro e w' ⟨rfl, hq, hf'⟩
            replace hq : RtcAt w' bY (s.tr (X + Y)) := hq
            replace hR := RowAt.but hR hf' (Ne.symm ny)
            replace hRx := RowAt.but hRx hf' (Ne.symm nxy)
            replace hB := Lib.hid (But.below hB.out hf' hWbY hB.out.size)
            clear hRy hf'
            have hRy := hq
            clear hq
            generalize s.tr (X + Y) = T at *
            clear okX nx ny nxy hWbx hWbY
            go_wp2_with fail
            refine (seconds_any bx T _ hRx).mono ?_
            rintro e w' ⟨rfl, hb'⟩
            replace hR := RtcAt.ext hR hb'
            replace hRx := RtcAt.ext hRx hb'
            replace hRy := RtcAt.ext hRy hb'
            replace hB := Lib.hid (below_then hB.out hb')
            clear hb'
            go_wp2_with fail
            refine (seconds_any bY T _ hRy).mono ?_
            rintro e w' ⟨rfl, hb'⟩
            replace hR := RtcAt.ext hR hb'
            replace hRx := RtcAt.ext hRx hb'
            replace hRy := RtcAt.ext hRy hb'
            replace hB := Lib.hid (below_then hB.out hb')
            clear hb'
            go_wp2_with fail
            refine (rest_any bx T _ hRx).mono ?_
            rintro e w' ⟨rfl, hb'⟩
            replace hR := RtcAt.ext hR hb'
            replace hRx := RtcAt.ext hRx hb'
            replace hRy := RtcAt.ext hRy hb'
            replace hB := Lib.hid (below_then hB.out hb')
            clear hb'
            go_wp2_with fail
            refine (rest_any bY T _ hRy).mono ?_
            rintro e w' ⟨rfl, hb'⟩
            replace hR := RtcAt.ext hR hb'
            replace hRx := RtcAt.ext hRx hb'
            replace hRy := RtcAt.ext hRy hb'
            replace hB := Lib.hid (below_then hB.out hb')
            clear hb'
            go_wp2_with fail
            refine (raised_any bx T _ hRx).mono ?_
            rintro e w' ⟨rfl, hb'⟩
            replace hR := RtcAt.ext hR hb'
            replace hRx := RtcAt.ext hRx hb'
            replace hRy := RtcAt.ext hRy hb'
            replace hB := Lib.hid (below_then hB.out hb')
            clear hb'
            go_wp2_with fail
            refine (raised_any bY T _ hRy).mono ?_
            rintro e w' ⟨rfl, hb'⟩
            replace hR := RtcAt.ext hR hb'
            replace hRx := RtcAt.ext hRx hb'
            replace hRy := RtcAt.ext hRy hb'
            replace hB := Lib.hid (below_then hB.out hb')
            clear hb'
            go_wp2_with fail
            refine (left_any bx T okT _ hRx).mono ?_
            rintro e w' ⟨rfl, hb'⟩
            replace hR := RtcAt.ext hR hb'
            replace hRx := RtcAt.ext hRx hb'
            replace hRy := RtcAt.ext hRy hb'
            replace hB := Lib.hid (below_then hB.out hb')
            clear hb'
            go_wp2_with fail
            refine (left_any bY T okT _ hRy).mono ?_
            rintro e w' ⟨rfl, hb'⟩
            replace hR := RtcAt.ext hR hb'
            replace hRx := RtcAt.ext hRx hb'
            replace hRy := RtcAt.ext hRy hb'
            replace hB := Lib.hid (below_then hB.out hb')
            clear hb'
            go_wp2_with fail
            clear hRx hRy okT
            refine (left_any b s ok _ hR).mono ?_
            rw [left_met s hm]
            rintro e w' ⟨rfl, hb'⟩
            replace hR := RtcAt.ext hR hb'
            replace hB := Lib.hid (below_then hB.out hb')
            clear hb'
            go_wp2_with fail
            refine (Met_any b s _ hR).mono ?_
            rw [hm]
            rintro e w' ⟨rfl, hb'⟩
            replace hR := RtcAt.ext hR hb'
            replace hB := Lib.hid (below_then hB.out hb')
            clear hb'
            go_wp2_with fail
            have lf := line_met s ok X hm
            have ok2 : St.ok { s with ra := false } := ⟨ok.s0, ok.s1, ok.a0, ok.a1, ok.r0, ok.r1, ok.t0, ok.t1, ok.d1⟩
            refine (store_any b s ok 28 1 _ (by omega) (by omega) (by omega) (by omega) hR).mono ?_
            rw [st28]
            rintro e w' ⟨rfl, hq, hf'⟩
            replace hB := Lib.hid (But.below hB.out hf' hWb hB.out.size)
            clear hR hf'
            have hR := hq
            clear hq
            go_wp2_with fail
            refine (tick_any b _ ok2 X _ (by omega) (by omega) hR).mono ?_
            rintro e w' ⟨rfl, hq, hf'⟩
            replace hq : RtcAt w' b (St.tr { s with ra := false } X) := hq
            replace hB := Lib.hid (But.below hB.out hf' hWb hB.out.size)
            clear hR hf'
            have hR := hq
            clear hq
            go_wp2_with fail
            refine (known10 _).mono ?_
            rintro e w' ⟨rfl, hb'⟩
            replace hR := RtcAt.ext hR hb'
            replace hB := Lib.hid (below_then hB.out hb')
            clear hb'
            go_wp2_with fail
            refine (raised_any b _ _ hR).mono ?_
            rw [lf]
            rintro e w' ⟨rfl, hb'⟩
            replace hR := RtcAt.ext hR hb'
            replace hB := Lib.hid (below_then hB.out hb')
            clear hb'
            go_wp2_with fail
            go_ret
            exact ⟨rfl, hB.out⟩
          · replace hm : s.metB = false := by simpa using hm
            by_cases hn : s.left = 18446744073709551615
            · clear HFIT hM hlt
              have hx0 : 0 ≤ x % 4611686018427387904 := by omega
              have hx1 : x % 4611686018427387904 ≤ 4611686018427387903 := by omega
              have hy0 : 0 ≤ y % 4611686018427387904 := by omega
              have hy1 : y % 4611686018427387904 ≤ 4611686018427387903 := by omega
              have hWb := hb
              replace hB := Lib.hid hB
              go_wp2_with fail
              have lt0 := RowAt.lt hR
              refine (copy_any b s _ hR).mono ?_
              rintro e w1 ⟨bx, rfl, hbx, hRx, hb'⟩
              have nx : bx ≠ b := by omega
              have hWbx : W.heap.size ≤ bx := by have := hB.out.size; omega
              replace hR := RtcAt.ext hR hb'
              replace hB := Lib.hid (below_then hB.out hb')
              clear hb' hbx lt0
              go_wp2_with fail
              have lt0 := RowAt.lt hR
              have lt1 := RowAt.lt hRx
              refine (copy_any b s _ hR).mono ?_
              rintro e w2 ⟨bY, rfl, hbY, hRy, hb'⟩
              have ny : bY ≠ b := by omega
              have nxy : bY ≠ bx := by omega
              have hWbY : W.heap.size ≤ bY := by have := hB.out.size; omega
              replace hR := RtcAt.ext hR hb'
              replace hRx := RtcAt.ext hRx hb'
              replace hB := Lib.hid (below_then hB.out hb')
              clear hb' hbY lt0 lt1
              go_wp2_with fail
              generalize x % 4611686018427387904 = X at *
              generalize y % 4611686018427387904 = Y at *
              clear x0 x1 y0 y1
              have okX := St.tr_ok s ok X (by omega) (by omega)
              have okT := St.tr_ok s ok (X + Y) (by omega) (by omega)
              have eT := St.tr_tr s ok X Y (by omega) (by omega) (by omega)
              refine (tick_any bx s ok X _ (by omega) (by omega) hRx).mono ?_
              rintro e w' ⟨rfl, hq, hf'⟩
              replace hq : RtcAt w' bx (s.tr X) := hq
              replace hR := RowAt.but hR hf' (Ne.symm nx)
              replace hRy := RowAt.but hRy hf' nxy
              replace hB := Lib.hid (But.below hB.out hf' hWbx hB.out.size)
              clear hRx hf'
              have hRx := hq
              clear hq
              go_wp2_with fail
              refine (tick_any bx (s.tr X) okX Y _ (by omega) (by omega) hRx).mono ?_
              rintro e w' ⟨rfl, hq, hf'⟩
              replace hq : RtcAt w' bx ((s.tr X).tr Y) := hq
              replace hR := RowAt.but hR hf' (Ne.symm nx)
              replace hRy := RowAt.but hRy hf' nxy
              replace hB := Lib.hid (But.below hB.out hf' hWbx hB.out.size)
              clear hRx hf'
              have hRx := hq
              clear hq
              rw [eT] at hRx
              clear eT
              go_wp2_with fail
              refine (tick_any bY s ok (X + Y) _ (by omega) (by omega) hRy).mono ?_
              rintro e w' ⟨rfl, hq, hf'⟩
              replace hq : RtcAt w' bY (s.tr (X + Y)) := hq
              replace hR := RowAt.but hR hf' (Ne.symm ny)
              replace hRx := RowAt.but hRx hf' (Ne.symm nxy)
              replace hB := Lib.hid (But.below hB.out hf' hWbY hB.out.size)
              clear hRy hf'
              have hRy := hq
              clear hq
              generalize s.tr (X + Y) = T at *
              clear okX nx ny nxy hWbx hWbY
              go_wp2_with fail
              refine (seconds_any bx T _ hRx).mono ?_
              rintro e w' ⟨rfl, hb'⟩
              replace hR := RtcAt.ext hR hb'
              replace hRx := RtcAt.ext hRx hb'
              replace hRy := RtcAt.ext hRy hb'
              replace hB := Lib.hid (below_then hB.out hb')
              clear hb'
              go_wp2_with fail
              refine (seconds_any bY T _ hRy).mono ?_
              rintro e w' ⟨rfl, hb'⟩
              replace hR := RtcAt.ext hR hb'
              replace hRx := RtcAt.ext hRx hb'
              replace hRy := RtcAt.ext hRy hb'
              replace hB := Lib.hid (below_then hB.out hb')
              clear hb'
              go_wp2_with fail
              refine (rest_any bx T _ hRx).mono ?_
              rintro e w' ⟨rfl, hb'⟩
              replace hR := RtcAt.ext hR hb'
              replace hRx := RtcAt.ext hRx hb'
              replace hRy := RtcAt.ext hRy hb'
              replace hB := Lib.hid (below_then hB.out hb')
              clear hb'
              go_wp2_with fail
              refine (rest_any bY T _ hRy).mono ?_
              rintro e w' ⟨rfl, hb'⟩
              replace hR := RtcAt.ext hR hb'
              replace hRx := RtcAt.ext hRx hb'
              replace hRy := RtcAt.ext hRy hb'
              replace hB := Lib.hid (below_then hB.out hb')
              clear hb'
              go_wp2_with fail
              refine (raised_any bx T _ hRx).mono ?_
              rintro e w' ⟨rfl, hb'⟩
              replace hR := RtcAt.ext hR hb'
              replace hRx := RtcAt.ext hRx hb'
              replace hRy := RtcAt.ext hRy hb'
              replace hB := Lib.hid (below_then hB.out hb')
              clear hb'
              go_wp2_with fail
              refine (raised_any bY T _ hRy).mono ?_
              rintro e w' ⟨rfl, hb'⟩
              replace hR := RtcAt.ext hR hb'
              replace hRx := RtcAt.ext hRx hb'
              replace hRy := RtcAt.ext hRy hb'
              replace hB := Lib.hid (below_then hB.out hb')
              clear hb'
              go_wp2_with fail
              refine (left_any bx T okT _ hRx).mono ?_
              rintro e w' ⟨rfl, hb'⟩
              replace hR := RtcAt.ext hR hb'
              replace hRx := RtcAt.ext hRx hb'
              replace hRy := RtcAt.ext hRy hb'
              replace hB := Lib.hid (below_then hB.out hb')
              clear hb'
              go_wp2_with fail
              refine (left_any bY T okT _ hRy).mono ?_
              rintro e w' ⟨rfl, hb'⟩
              replace hR := RtcAt.ext hR hb'
              replace hRx := RtcAt.ext hRx hb'
              replace hRy := RtcAt.ext hRy hb'
              replace hB := Lib.hid (below_then hB.out hb')
              clear hb'
              go_wp2_with fail
              clear hRx hRy okT
              refine (left_any b s ok _ hR).mono ?_
              rw [hn]
              rintro e w' ⟨rfl, hb'⟩
              replace hR := RtcAt.ext hR hb'
              replace hB := Lib.hid (below_then hB.out hb')
              clear hb'
              go_wp2_with fail
              refine (Met_any b s _ hR).mono ?_
              rw [hm]
              rintro e w' ⟨rfl, hb'⟩
              replace hR := RtcAt.ext hR hb'
              replace hB := Lib.hid (below_then hB.out hb')
              clear hb'
              go_wp2_with fail
              refine (known10 _).mono ?_
              rintro e w' ⟨rfl, hb'⟩
              replace hR := RtcAt.ext hR hb'
              replace hB := Lib.hid (below_then hB.out hb')
              clear hb'
              go_wp2_with fail
              go_ret
              exact ⟨rfl, hB.out⟩
            · clear HFIT hM hlt
              have hx0 : 0 ≤ x % 4611686018427387904 := by omega
              have hx1 : x % 4611686018427387904 ≤ 4611686018427387903 := by omega
              have hy0 : 0 ≤ y % 4611686018427387904 := by omega
              have hy1 : y % 4611686018427387904 ≤ 4611686018427387903 := by omega
              have hWb := hb
              replace hB := Lib.hid hB
              go_wp2_with fail
              have lt0 := RowAt.lt hR
              refine (copy_any b s _ hR).mono ?_
              rintro e w1 ⟨bx, rfl, hbx, hRx, hb'⟩
              have nx : bx ≠ b := by omega
              have hWbx : W.heap.size ≤ bx := by have := hB.out.size; omega
              replace hR := RtcAt.ext hR hb'
              replace hB := Lib.hid (below_then hB.out hb')
              clear hb' hbx lt0
              go_wp2_with fail
              have lt0 := RowAt.lt hR
              have lt1 := RowAt.lt hRx
              refine (copy_any b s _ hR).mono ?_
              rintro e w2 ⟨bY, rfl, hbY, hRy, hb'⟩
              have ny : bY ≠ b := by omega
              have nxy : bY ≠ bx := by omega
              have hWbY : W.heap.size ≤ bY := by have := hB.out.size; omega
              replace hR := RtcAt.ext hR hb'
              replace hRx := RtcAt.ext hRx hb'
              replace hB := Lib.hid (below_then hB.out hb')
              clear hb' hbY lt0 lt1
              go_wp2_with fail
              generalize x % 4611686018427387904 = X at *
              generalize y % 4611686018427387904 = Y at *
              clear x0 x1 y0 y1
              have okX := St.tr_ok s ok X (by omega) (by omega)
              have okT := St.tr_ok s ok (X + Y) (by omega) (by omega)
              have eT := St.tr_tr s ok X Y (by omega) (by omega) (by omega)
              refine (tick_any bx s ok X _ (by omega) (by omega) hRx).mono ?_
              rintro e w' ⟨rfl, hq, hf'⟩
              replace hq : RtcAt w' bx (s.tr X) := hq
              replace hR := RowAt.but hR hf' (Ne.symm nx)
              replace hRy := RowAt.but hRy hf' nxy
              replace hB := Lib.hid (But.below hB.out hf' hWbx hB.out.size)
              clear hRx hf'
              have hRx := hq
              clear hq
              go_wp2_with fail
              refine (tick_any bx (s.tr X) okX Y _ (by omega) (by omega) hRx).mono ?_
              rintro e w' ⟨rfl, hq, hf'⟩
              replace hq : RtcAt w' bx ((s.tr X).tr Y) := hq
              replace hR := RowAt.but hR hf' (Ne.symm nx)
              replace hRy := RowAt.but hRy hf' nxy
              replace hB := Lib.hid (But.below hB.out hf' hWbx hB.out.size)
              clear hRx hf'
              have hRx := hq
              clear hq
              rw [eT] at hRx
              clear eT
              go_wp2_with fail
              refine (tick_any bY s ok (X + Y) _ (by omega) (by omega) hRy).mono ?_
              rintro e w' ⟨rfl, hq, hf'⟩
              replace hq : RtcAt w' bY (s.tr (X + Y)) := hq
              replace hR := RowAt.but hR hf' (Ne.symm ny)
              replace hRx := RowAt.but hRx hf' (Ne.symm nxy)
              replace hB := Lib.hid (But.below hB.out hf' hWbY hB.out.size)
              clear hRy hf'
              have hRy := hq
              clear hq
              generalize s.tr (X + Y) = T at *
              clear okX nx ny nxy hWbx hWbY
              go_wp2_with fail
              refine (seconds_any bx T _ hRx).mono ?_
              rintro e w' ⟨rfl, hb'⟩
              replace hR := RtcAt.ext hR hb'
              replace hRx := RtcAt.ext hRx hb'
              replace hRy := RtcAt.ext hRy hb'
              replace hB := Lib.hid (below_then hB.out hb')
              clear hb'
              go_wp2_with fail
              refine (seconds_any bY T _ hRy).mono ?_
              rintro e w' ⟨rfl, hb'⟩
              replace hR := RtcAt.ext hR hb'
              replace hRx := RtcAt.ext hRx hb'
              replace hRy := RtcAt.ext hRy hb'
              replace hB := Lib.hid (below_then hB.out hb')
              clear hb'
              go_wp2_with fail
              refine (rest_any bx T _ hRx).mono ?_
              rintro e w' ⟨rfl, hb'⟩
              replace hR := RtcAt.ext hR hb'
              replace hRx := RtcAt.ext hRx hb'
              replace hRy := RtcAt.ext hRy hb'
              replace hB := Lib.hid (below_then hB.out hb')
              clear hb'
              go_wp2_with fail
              refine (rest_any bY T _ hRy).mono ?_
              rintro e w' ⟨rfl, hb'⟩
              replace hR := RtcAt.ext hR hb'
              replace hRx := RtcAt.ext hRx hb'
              replace hRy := RtcAt.ext hRy hb'
              replace hB := Lib.hid (below_then hB.out hb')
              clear hb'
              go_wp2_with fail
              refine (raised_any bx T _ hRx).mono ?_
              rintro e w' ⟨rfl, hb'⟩
              replace hR := RtcAt.ext hR hb'
              replace hRx := RtcAt.ext hRx hb'
              replace hRy := RtcAt.ext hRy hb'
              replace hB := Lib.hid (below_then hB.out hb')
              clear hb'
              go_wp2_with fail
              refine (raised_any bY T _ hRy).mono ?_
              rintro e w' ⟨rfl, hb'⟩
              replace hR := RtcAt.ext hR hb'
              replace hRx := RtcAt.ext hRx hb'
              replace hRy := RtcAt.ext hRy hb'
              replace hB := Lib.hid (below_then hB.out hb')
              clear hb'
              go_wp2_with fail
              refine (left_any bx T okT _ hRx).mono ?_
              rintro e w' ⟨rfl, hb'⟩
              replace hR := RtcAt.ext hR hb'
              replace hRx := RtcAt.ext hRx hb'
              replace hRy := RtcAt.ext hRy hb'
              replace hB := Lib.hid (below_then hB.out hb')
              clear hb'
              go_wp2_with fail
              refine (left_any bY T okT _ hRy).mono ?_
              rintro e w' ⟨rfl, hb'⟩
              replace hR := RtcAt.ext hR hb'
              replace hRx := RtcAt.ext hRx hb'
              replace hRy := RtcAt.ext hRy hb'
              replace hB := Lib.hid (below_then hB.out hb')
              clear hb'
              go_wp2_with fail
              clear hRx hRy okT
              obtain ⟨l1, l2, lt, ld, la⟩ := left_near s ok hm hn
              have ok2 : St.ok { s with ra := false } := ⟨ok.s0, ok.s1, ok.a0, ok.a1, ok.r0, ok.r1, ok.t0, ok.t1, ok.d1⟩
              have ok3 := St.tr_ok _ ok2 (s.left - 1) (by omega) (by omega)
              have la1 := ok.a1
              rw [lt] at ok3
              obtain ⟨z1, z2, z3, z4⟩ := last_facts s.alarm s.set s.div ld la la1 ok3
              have gn : (s.left == 18446744073709551615) = false := by simpa using hn
              have gz : (s.left == 0) = false := by simp; omega
              have gw : 0 ≤ s.left - 1 := by omega
              have gw2 : s.left - 1 ≤ 18446744073709551615 := by omega
              generalize hN : s.left = N at *
              refine (left_any b s ok _ hR).mono ?_
              rw [hN]
              rintro e w' ⟨rfl, hb'⟩
              replace hR := RtcAt.ext hR hb'
              replace hB := Lib.hid (below_then hB.out hb')
              clear hb'
              go_wp2_with fail
              refine (Met_any b s _ hR).mono ?_
              rw [hm]
              rintro e w' ⟨rfl, hb'⟩
              replace hR := RtcAt.ext hR hb'
              replace hB := Lib.hid (below_then hB.out hb')
              clear hb'
              go_wp2_with fail
              refine (store_any b s ok 28 1 _ (by omega) (by omega) (by omega) (by omega) hR).mono ?_
              rw [st28]
              rintro e w' ⟨rfl, hq, hf'⟩
              replace hB := Lib.hid (But.below hB.out hf' hWb hB.out.size)
              clear hR hf'
              have hR := hq
              clear hq
              go_wp2_with fail
              refine (tick_any b _ ok2 (N - 1) _ gw gw2 hR).mono ?_
              rintro e w' ⟨rfl, hq, hf'⟩
              replace hq : RtcAt w' b (St.tr { s with ra := false } (N - 1)) := hq
              replace hB := Lib.hid (But.below hB.out hf' hWb hB.out.size)
              clear hR hf'
              have hR := hq
              clear hq
              rw [lt] at hR
              go_wp2_with fail
              refine (Met_any b _ _ hR).mono ?_
              rw [z1]
              rintro e w' ⟨rfl, hb'⟩
              replace hR := RtcAt.ext hR hb'
              replace hB := Lib.hid (below_then hB.out hb')
              clear hb'
              go_wp2_with fail
              refine (raised_any b _ _ hR).mono ?_
              rintro e w' ⟨rfl, hb'⟩
              replace hR := RtcAt.ext hR hb'
              replace hB := Lib.hid (below_then hB.out hb')
              clear hb'
              go_wp2_with fail
              refine (left_any b _ ok3 _ hR).mono ?_
              rw [z2]
              rintro e w' ⟨rfl, hb'⟩
              replace hR := RtcAt.ext hR hb'
              replace hB := Lib.hid (below_then hB.out hb')
              clear hb'
              go_wp2_with fail
              refine (tick_any b _ ok3 1 _ (by omega) (by omega) hR).mono ?_
              rintro e w' ⟨rfl, hq, hf'⟩
              replace hq : RtcAt w' b (St.tr ⟨s.alarm - 1, s.alarm, s.div - 1, s.set, true, false, s.div⟩ 1) := hq
              replace hB := Lib.hid (But.below hB.out hf' hWb hB.out.size)
              clear hR hf'
              have hR := hq
              clear hq
              rw [z3] at hR
              go_wp2_with fail
              refine (known10 _).mono ?_
              rintro e w' ⟨rfl, hb'⟩
              replace hR := RtcAt.ext hR hb'
              replace hB := Lib.hid (below_then hB.out hb')
              clear hb'
              go_wp2_with fail
              refine (Met_any b _ _ hR).mono ?_
              rw [z4]
              rintro e w' ⟨rfl, hb'⟩
              replace hR := RtcAt.ext hR hb'
              replace hB := Lib.hid (below_then hB.out hb')
              clear hb'
              go_wp2_with fail
              refine (raised_any b _ _ hR).mono ?_
              rintro e w' ⟨rfl, hb'⟩
              replace hR := RtcAt.ext hR hb'
              replace hB := Lib.hid (below_then hB.out hb')
              clear hb'
              go_wp2_with fail
              go_ret
              exact ⟨rfl, hB.out⟩
        · have gl : decide ((j : Int) < (len : Int)) = false := by simp; omega
          by_cases hm : s.metB = true
          · clear HFIT hM hlt
            have hx0 : 0 ≤ x % 4611686018427387904 := by omega
            have hx1 : x % 4611686018427387904 ≤ 4611686018427387903 := by omega
            have hy0 : 0 ≤ y % 4611686018427387904 := by omega
            have hy1 : y % 4611686018427387904 ≤ 4611686018427387903 := by omega
            have hWb := hb
            replace hB := Lib.hid hB
            go_wp2_with fail
            have lt0 := RowAt.lt hR
            refine (copy_any b s _ hR).mono ?_
            rintro e w1 ⟨bx, rfl, hbx, hRx, hb'⟩
            have nx : bx ≠ b := by omega
            have hWbx : W.heap.size ≤ bx := by have := hB.out.size; omega
            replace hR := RtcAt.ext hR hb'
            replace hB := Lib.hid (below_then hB.out hb')
            clear hb' hbx lt0
            go_wp2_with fail
            have lt0 := RowAt.lt hR
            have lt1 := RowAt.lt hRx
            refine (copy_any b s _ hR).mono ?_
            rintro e w2 ⟨bY, rfl, hbY, hRy, hb'⟩
            have ny : bY ≠ b := by omega
            have nxy : bY ≠ bx := by omega
            have hWbY : W.heap.size ≤ bY := by have := hB.out.size; omega
            replace hR := RtcAt.ext hR hb'
            replace hRx := RtcAt.ext hRx hb'
            replace hB := Lib.hid (below_then hB.out hb')
            clear hb' hbY lt0 lt1
            go_wp2_with fail
            generalize x % 4611686018427387904 = X at *
            generalize y % 4611686018427387904 = Y at *
            clear x0 x1 y0 y1
            have okX := St.tr_ok s ok X (by omega) (by omega)
            have okT := St.tr_ok s ok (X + Y) (by omega) (by omega)
            have eT := St.tr_tr s ok X Y (by omega) (by omega) (by omega)
            refine (tick_any bx s ok X _ (by omega) (by omega) hRx).mono ?_
            rintro e w' ⟨rfl, hq, hf'⟩
            replace hq : RtcAt w' bx (s.tr X) := hq
            replace hR := RowAt.but hR hf' (Ne.symm nx)
            replace hRy := RowAt.but hRy hf' nxy
            replace hB := Lib.hid (But.below hB.out hf' hWbx hB.out.size)
            clear hRx hf'
            have hRx := hq
            clear hq
            go_wp2_with fail
            refine (tick_any bx (s.tr X) okX Y _ (by omega) (by omega) hRx).mono ?_
            rintro e w' ⟨rfl, hq, hf'⟩
            replace hq : RtcAt w' bx ((s.tr X).tr Y) := hq
            replace hR := RowAt.but hR hf' (Ne.symm nx)
            replace hRy := RowAt.but hRy hf' nxy
            replace hB := Lib.hid (But.below hB.out hf' hWbx hB.out.size)
            clear hRx hf'
            have hRx := hq
            clear hq
            rw [eT] at hRx
            clear eT
            go_wp2_with fail
            refine (tick_any bY s ok (X + Y) _ (by omega) (by omega) hRy).mono ?_
            rintro e w' ⟨rfl, hq, hf'⟩
            replace hq : RtcAt w' bY (s.tr (X + Y)) := hq
            replace hR := RowAt.but hR hf' (Ne.symm ny)
            replace hRx := RowAt.but hRx hf' (Ne.symm nxy)
            replace hB := Lib.hid (But.below hB.out hf' hWbY hB.out.size)
            clear hRy hf'
            have hRy := hq
            clear hq
            generalize s.tr (X + Y) = T at *
            clear okX nx ny nxy hWbx hWbY
            go_wp2_with fail
            refine (seconds_any bx T _ hRx).mono ?_
            rintro e w' ⟨rfl, hb'⟩
            replace hR := RtcAt.ext hR hb'
            replace hRx := RtcAt.ext hRx hb'
            replace hRy := RtcAt.ext hRy hb'
            replace hB := Lib.hid (below_then hB.out hb')
            clear hb'
            go_wp2_with fail
            refine (seconds_any bY T _ hRy).mono ?_
            rintro e w' ⟨rfl, hb'⟩
            replace hR := RtcAt.ext hR hb'
            replace hRx := RtcAt.ext hRx hb'
            replace hRy := RtcAt.ext hRy hb'
            replace hB := Lib.hid (below_then hB.out hb')
            clear hb'
            go_wp2_with fail
            refine (rest_any bx T _ hRx).mono ?_
            rintro e w' ⟨rfl, hb'⟩
            replace hR := RtcAt.ext hR hb'
            replace hRx := RtcAt.ext hRx hb'
            replace hRy := RtcAt.ext hRy hb'
            replace hB := Lib.hid (below_then hB.out hb')
            clear hb'
            go_wp2_with fail
            refine (rest_any bY T _ hRy).mono ?_
            rintro e w' ⟨rfl, hb'⟩
            replace hR := RtcAt.ext hR hb'
            replace hRx := RtcAt.ext hRx hb'
            replace hRy := RtcAt.ext hRy hb'
            replace hB := Lib.hid (below_then hB.out hb')
            clear hb'
            go_wp2_with fail
            refine (raised_any bx T _ hRx).mono ?_
            rintro e w' ⟨rfl, hb'⟩
            replace hR := RtcAt.ext hR hb'
            replace hRx := RtcAt.ext hRx hb'
            replace hRy := RtcAt.ext hRy hb'
            replace hB := Lib.hid (below_then hB.out hb')
            clear hb'
            go_wp2_with fail
            refine (raised_any bY T _ hRy).mono ?_
            rintro e w' ⟨rfl, hb'⟩
            replace hR := RtcAt.ext hR hb'
            replace hRx := RtcAt.ext hRx hb'
            replace hRy := RtcAt.ext hRy hb'
            replace hB := Lib.hid (below_then hB.out hb')
            clear hb'
            go_wp2_with fail
            refine (left_any bx T okT _ hRx).mono ?_
            rintro e w' ⟨rfl, hb'⟩
            replace hR := RtcAt.ext hR hb'
            replace hRx := RtcAt.ext hRx hb'
            replace hRy := RtcAt.ext hRy hb'
            replace hB := Lib.hid (below_then hB.out hb')
            clear hb'
            go_wp2_with fail
            refine (left_any bY T okT _ hRy).mono ?_
            rintro e w' ⟨rfl, hb'⟩
            replace hR := RtcAt.ext hR hb'
            replace hRx := RtcAt.ext hRx hb'
            replace hRy := RtcAt.ext hRy hb'
            replace hB := Lib.hid (below_then hB.out hb')
            clear hb'
            go_wp2_with fail
            clear hRx hRy okT
            refine (left_any b s ok _ hR).mono ?_
            rw [left_met s hm]
            rintro e w' ⟨rfl, hb'⟩
            replace hR := RtcAt.ext hR hb'
            replace hB := Lib.hid (below_then hB.out hb')
            clear hb'
            go_wp2_with fail
            refine (Met_any b s _ hR).mono ?_
            rw [hm]
            rintro e w' ⟨rfl, hb'⟩
            replace hR := RtcAt.ext hR hb'
            replace hB := Lib.hid (below_then hB.out hb')
            clear hb'
            go_wp2_with fail
            have lf := line_met s ok X hm
            have ok2 : St.ok { s with ra := false } := ⟨ok.s0, ok.s1, ok.a0, ok.a1, ok.r0, ok.r1, ok.t0, ok.t1, ok.d1⟩
            refine (store_any b s ok 28 1 _ (by omega) (by omega) (by omega) (by omega) hR).mono ?_
            rw [st28]
            rintro e w' ⟨rfl, hq, hf'⟩
            replace hB := Lib.hid (But.below hB.out hf' hWb hB.out.size)
            clear hR hf'
            have hR := hq
            clear hq
            go_wp2_with fail
            refine (tick_any b _ ok2 X _ (by omega) (by omega) hR).mono ?_
            rintro e w' ⟨rfl, hq, hf'⟩
            replace hq : RtcAt w' b (St.tr { s with ra := false } X) := hq
            replace hB := Lib.hid (But.below hB.out hf' hWb hB.out.size)
            clear hR hf'
            have hR := hq
            clear hq
            go_wp2_with fail
            refine (known10 _).mono ?_
            rintro e w' ⟨rfl, hb'⟩
            replace hR := RtcAt.ext hR hb'
            replace hB := Lib.hid (below_then hB.out hb')
            clear hb'
            go_wp2_with fail
            refine (raised_any b _ _ hR).mono ?_
            rw [lf]
            rintro e w' ⟨rfl, hb'⟩
            replace hR := RtcAt.ext hR hb'
            replace hB := Lib.hid (below_then hB.out hb')
            clear hb'
            go_wp2_with fail
            go_ret
            exact ⟨rfl, hB.out⟩
          · replace hm : s.metB = false := by simpa using hm
            by_cases hn : s.left = 18446744073709551615
            · clear HFIT hM hlt
              have hx0 : 0 ≤ x % 4611686018427387904 := by omega
              have hx1 : x % 4611686018427387904 ≤ 4611686018427387903 := by omega
              have hy0 : 0 ≤ y % 4611686018427387904 := by omega
              have hy1 : y % 4611686018427387904 ≤ 4611686018427387903 := by omega
              have hWb := hb
              replace hB := Lib.hid hB
              go_wp2_with fail
              have lt0 := RowAt.lt hR
              refine (copy_any b s _ hR).mono ?_
              rintro e w1 ⟨bx, rfl, hbx, hRx, hb'⟩
              have nx : bx ≠ b := by omega
              have hWbx : W.heap.size ≤ bx := by have := hB.out.size; omega
              replace hR := RtcAt.ext hR hb'
              replace hB := Lib.hid (below_then hB.out hb')
              clear hb' hbx lt0
              go_wp2_with fail
              have lt0 := RowAt.lt hR
              have lt1 := RowAt.lt hRx
              refine (copy_any b s _ hR).mono ?_
              rintro e w2 ⟨bY, rfl, hbY, hRy, hb'⟩
              have ny : bY ≠ b := by omega
              have nxy : bY ≠ bx := by omega
              have hWbY : W.heap.size ≤ bY := by have := hB.out.size; omega
              replace hR := RtcAt.ext hR hb'
              replace hRx := RtcAt.ext hRx hb'
              replace hB := Lib.hid (below_then hB.out hb')
              clear hb' hbY lt0 lt1
              go_wp2_with fail
              generalize x % 4611686018427387904 = X at *
              generalize y % 4611686018427387904 = Y at *
              clear x0 x1 y0 y1
              have okX := St.tr_ok s ok X (by omega) (by omega)
              have okT := St.tr_ok s ok (X + Y) (by omega) (by omega)
              have eT := St.tr_tr s ok X Y (by omega) (by omega) (by omega)
              refine (tick_any bx s ok X _ (by omega) (by omega) hRx).mono ?_
              rintro e w' ⟨rfl, hq, hf'⟩
              replace hq : RtcAt w' bx (s.tr X) := hq
              replace hR := RowAt.but hR hf' (Ne.symm nx)
              replace hRy := RowAt.but hRy hf' nxy
              replace hB := Lib.hid (But.below hB.out hf' hWbx hB.out.size)
              clear hRx hf'
              have hRx := hq
              clear hq
              go_wp2_with fail
              refine (tick_any bx (s.tr X) okX Y _ (by omega) (by omega) hRx).mono ?_
              rintro e w' ⟨rfl, hq, hf'⟩
              replace hq : RtcAt w' bx ((s.tr X).tr Y) := hq
              replace hR := RowAt.but hR hf' (Ne.symm nx)
              replace hRy := RowAt.but hRy hf' nxy
              replace hB := Lib.hid (But.below hB.out hf' hWbx hB.out.size)
              clear hRx hf'
              have hRx := hq
              clear hq
              rw [eT] at hRx
              clear eT
              go_wp2_with fail
              refine (tick_any bY s ok (X + Y) _ (by omega) (by omega) hRy).mono ?_
              rintro e w' ⟨rfl, hq, hf'⟩
              replace hq : RtcAt w' bY (s.tr (X + Y)) := hq
              replace hR := RowAt.but hR hf' (Ne.symm ny)
              replace hRx := RowAt.but hRx hf' (Ne.symm nxy)
              replace hB := Lib.hid (But.below hB.out hf' hWbY hB.out.size)
              clear hRy hf'
              have hRy := hq
              clear hq
              generalize s.tr (X + Y) = T at *
              clear okX nx ny nxy hWbx hWbY
              go_wp2_with fail
              refine (seconds_any bx T _ hRx).mono ?_
              rintro e w' ⟨rfl, hb'⟩
              replace hR := RtcAt.ext hR hb'
              replace hRx := RtcAt.ext hRx hb'
              replace hRy := RtcAt.ext hRy hb'
              replace hB := Lib.hid (below_then hB.out hb')
              clear hb'
              go_wp2_with fail
              refine (seconds_any bY T _ hRy).mono ?_
              rintro e w' ⟨rfl, hb'⟩
              replace hR := RtcAt.ext hR hb'
              replace hRx := RtcAt.ext hRx hb'
              replace hRy := RtcAt.ext hRy hb'
              replace hB := Lib.hid (below_then hB.out hb')
              clear hb'
              go_wp2_with fail
              refine (rest_any bx T _ hRx).mono ?_
              rintro e w' ⟨rfl, hb'⟩
              replace hR := RtcAt.ext hR hb'
              replace hRx := RtcAt.ext hRx hb'
              replace hRy := RtcAt.ext hRy hb'
              replace hB := Lib.hid (below_then hB.out hb')
              clear hb'
              go_wp2_with fail
              refine (rest_any bY T _ hRy).mono ?_
              rintro e w' ⟨rfl, hb'⟩
              replace hR := RtcAt.ext hR hb'
              replace hRx := RtcAt.ext hRx hb'
              replace hRy := RtcAt.ext hRy hb'
              replace hB := Lib.hid (below_then hB.out hb')
              clear hb'
              go_wp2_with fail
              refine (raised_any bx T _ hRx).mono ?_
              rintro e w' ⟨rfl, hb'⟩
              replace hR := RtcAt.ext hR hb'
              replace hRx := RtcAt.ext hRx hb'
              replace hRy := RtcAt.ext hRy hb'
              replace hB := Lib.hid (below_then hB.out hb')
              clear hb'
              go_wp2_with fail
              refine (raised_any bY T _ hRy).mono ?_
              rintro e w' ⟨rfl, hb'⟩
              replace hR := RtcAt.ext hR hb'
              replace hRx := RtcAt.ext hRx hb'
              replace hRy := RtcAt.ext hRy hb'
              replace hB := Lib.hid (below_then hB.out hb')
              clear hb'
              go_wp2_with fail
              refine (left_any bx T okT _ hRx).mono ?_
              rintro e w' ⟨rfl, hb'⟩
              replace hR := RtcAt.ext hR hb'
              replace hRx := RtcAt.ext hRx hb'
              replace hRy := RtcAt.ext hRy hb'
              replace hB := Lib.hid (below_then hB.out hb')
              clear hb'
              go_wp2_with fail
              refine (left_any bY T okT _ hRy).mono ?_
              rintro e w' ⟨rfl, hb'⟩
              replace hR := RtcAt.ext hR hb'
              replace hRx := RtcAt.ext hRx hb'
              replace hRy := RtcAt.ext hRy hb'
              replace hB := Lib.hid (below_then hB.out hb')
              clear hb'
              go_wp2_with fail
              clear hRx hRy okT
              refine (left_any b s ok _ hR).mono ?_
              rw [hn]
              rintro e w' ⟨rfl, hb'⟩
              replace hR := RtcAt.ext hR hb'
              replace hB := Lib.hid (below_then hB.out hb')
              clear hb'
              go_wp2_with fail
              refine (Met_any b s _ hR).mono ?_
              rw [hm]
              rintro e w' ⟨rfl, hb'⟩
              replace hR := RtcAt.ext hR hb'
              replace hB := Lib.hid (below_then hB.out hb')
              clear hb'
              go_wp2_with fail
              refine (known10 _).mono ?_
              rintro e w' ⟨rfl, hb'⟩
              replace hR := RtcAt.ext hR hb'
              replace hB := Lib.hid (below_then hB.out hb')
              clear hb'
              go_wp2_with fail
              go_ret
              exact ⟨rfl, hB.out⟩
            · clear HFIT hM hlt
              have hx0 : 0 ≤ x % 4611686018427387904 := by omega
              have hx1 : x % 4611686018427387904 ≤ 4611686018427387903 := by omega
              have hy0 : 0 ≤ y % 4611686018427387904 := by omega
              have hy1 : y % 4611686018427387904 ≤ 4611686018427387903 := by omega
              have hWb := hb
              replace hB := Lib.hid hB
              go_wp2_with fail
              have lt0 := RowAt.lt hR
              refine (copy_any b s _ hR).mono ?_
              rintro e w1 ⟨bx, rfl, hbx, hRx, hb'⟩
              have nx : bx ≠ b := by omega
              have hWbx : W.heap.size ≤ bx := by have := hB.out.size; omega
              replace hR := RtcAt.ext hR hb'
              replace hB := Lib.hid (below_then hB.out hb')
              clear hb' hbx lt0
              go_wp2_with fail
              have lt0 := RowAt.lt hR
              have lt1 := RowAt.lt hRx
              refine (copy_any b s _ hR).mono ?_
              rintro e w2 ⟨bY, rfl, hbY, hRy, hb'⟩
              have ny : bY ≠ b := by omega
              have nxy : bY ≠ bx := by omega
              have hWbY : W.heap.size ≤ bY := by have := hB.out.size; omega
              replace hR := RtcAt.ext hR hb'
              replace hRx := RtcAt.ext hRx hb'
              replace hB := Lib.hid (below_then hB.out hb')
              clear hb' hbY lt0 lt1
              go_wp2_with fail
              generalize x % 4611686018427387904 = X at *
              generalize y % 4611686018427387904 = Y at *
              clear x0 x1 y0 y1
              have okX := St.tr_ok s ok X (by omega) (by omega)
              have okT := St.tr_ok s ok (X + Y) (by omega) (by omega)
              have eT := St.tr_tr s ok X Y (by omega) (by omega) (by omega)
              refine (tick_any bx s ok X _ (by omega) (by omega) hRx).mono ?_
              rintro e w' ⟨rfl, hq, hf'⟩
              replace hq : RtcAt w' bx (s.tr X) := hq
              replace hR := RowAt.but hR hf' (Ne.symm nx)
              replace hRy := RowAt.but hRy hf' nxy
              replace hB := Lib.hid (But.below hB.out hf' hWbx hB.out.size)
              clear hRx hf'
              have hRx := hq
              clear hq
              go_wp2_with fail
              refine (tick_any bx (s.tr X) okX Y _ (by omega) (by omega) hRx).mono ?_
              rintro e w' ⟨rfl, hq, hf'⟩
              replace hq : RtcAt w' bx ((s.tr X).tr Y) := hq
              replace hR := RowAt.but hR hf' (Ne.symm nx)
              replace hRy := RowAt.but hRy hf' nxy
              replace hB := Lib.hid (But.below hB.out hf' hWbx hB.out.size)
              clear hRx hf'
              have hRx := hq
              clear hq
              rw [eT] at hRx
              clear eT
              go_wp2_with fail
              refine (tick_any bY s ok (X + Y) _ (by omega) (by omega) hRy).mono ?_
              rintro e w' ⟨rfl, hq, hf'⟩
              replace hq : RtcAt w' bY (s.tr (X + Y)) := hq
              replace hR := RowAt.but hR hf' (Ne.symm ny)
              replace hRx := RowAt.but hRx hf' (Ne.symm nxy)
              replace hB := Lib.hid (But.below hB.out hf' hWbY hB.out.size)
              clear hRy hf'
              have hRy := hq
              clear hq
              generalize s.tr (X + Y) = T at *
              clear okX nx ny nxy hWbx hWbY
              go_wp2_with fail
              refine (seconds_any bx T _ hRx).mono ?_
              rintro e w' ⟨rfl, hb'⟩
              replace hR := RtcAt.ext hR hb'
              replace hRx := RtcAt.ext hRx hb'
              replace hRy := RtcAt.ext hRy hb'
              replace hB := Lib.hid (below_then hB.out hb')
              clear hb'
              go_wp2_with fail
              refine (seconds_any bY T _ hRy).mono ?_
              rintro e w' ⟨rfl, hb'⟩
              replace hR := RtcAt.ext hR hb'
              replace hRx := RtcAt.ext hRx hb'
              replace hRy := RtcAt.ext hRy hb'
              replace hB := Lib.hid (below_then hB.out hb')
              clear hb'
              go_wp2_with fail
              refine (rest_any bx T _ hRx).mono ?_
              rintro e w' ⟨rfl, hb'⟩
              replace hR := RtcAt.ext hR hb'
              replace hRx := RtcAt.ext hRx hb'
              replace hRy := RtcAt.ext hRy hb'
              replace hB := Lib.hid (below_then hB.out hb')
              clear hb'
              go_wp2_with fail
              refine (rest_any bY T _ hRy).mono ?_
              rintro e w' ⟨rfl, hb'⟩
              replace hR := RtcAt.ext hR hb'
              replace hRx := RtcAt.ext hRx hb'
              replace hRy := RtcAt.ext hRy hb'
              replace hB := Lib.hid (below_then hB.out hb')
              clear hb'
              go_wp2_with fail
              refine (raised_any bx T _ hRx).mono ?_
              rintro e w' ⟨rfl, hb'⟩
              replace hR := RtcAt.ext hR hb'
              replace hRx := RtcAt.ext hRx hb'
              replace hRy := RtcAt.ext hRy hb'
              replace hB := Lib.hid (below_then hB.out hb')
              clear hb'
              go_wp2_with fail
              refine (raised_any bY T _ hRy).mono ?_
              rintro e w' ⟨rfl, hb'⟩
              replace hR := RtcAt.ext hR hb'
              replace hRx := RtcAt.ext hRx hb'
              replace hRy := RtcAt.ext hRy hb'
              replace hB := Lib.hid (below_then hB.out hb')
              clear hb'
              go_wp2_with fail
              refine (left_any bx T okT _ hRx).mono ?_
              rintro e w' ⟨rfl, hb'⟩
              replace hR := RtcAt.ext hR hb'
              replace hRx := RtcAt.ext hRx hb'
              replace hRy := RtcAt.ext hRy hb'
              replace hB := Lib.hid (below_then hB.out hb')
              clear hb'
              go_wp2_with fail
              refine (left_any bY T okT _ hRy).mono ?_
              rintro e w' ⟨rfl, hb'⟩
              replace hR := RtcAt.ext hR hb'
              replace hRx := RtcAt.ext hRx hb'
              replace hRy := RtcAt.ext hRy hb'
              replace hB := Lib.hid (below_then hB.out hb')
              clear hb'
              go_wp2_with fail
              clear hRx hRy okT
              obtain ⟨l1, l2, lt, ld, la⟩ := left_near s ok hm hn
              have ok2 : St.ok { s with ra := false } := ⟨ok.s0, ok.s1, ok.a0, ok.a1, ok.r0, ok.r1, ok.t0, ok.t1, ok.d1⟩
              have ok3 := St.tr_ok _ ok2 (s.left - 1) (by omega) (by omega)
              have la1 := ok.a1
              rw [lt] at ok3
              obtain ⟨z1, z2, z3, z4⟩ := last_facts s.alarm s.set s.div ld la la1 ok3
              have gn : (s.left == 18446744073709551615) = false := by simpa using hn
              have gz : (s.left == 0) = false := by simp; omega
              have gw : 0 ≤ s.left - 1 := by omega
              have gw2 : s.left - 1 ≤ 18446744073709551615 := by omega
              generalize hN : s.left = N at *
              refine (left_any b s ok _ hR).mono ?_
              rw [hN]
              rintro e w' ⟨rfl, hb'⟩
              replace hR := RtcAt.ext hR hb'
              replace hB := Lib.hid (below_then hB.out hb')
              clear hb'
              go_wp2_with fail
              refine (Met_any b s _ hR).mono ?_
              rw [hm]
              rintro e w' ⟨rfl, hb'⟩
              replace hR := RtcAt.ext hR hb'
              replace hB := Lib.hid (below_then hB.out hb')
              clear hb'
              go_wp2_with fail
              refine (store_any b s ok 28 1 _ (by omega) (by omega) (by omega) (by omega) hR).mono ?_
              rw [st28]
              rintro e w' ⟨rfl, hq, hf'⟩
              replace hB := Lib.hid (But.below hB.out hf' hWb hB.out.size)
              clear hR hf'
              have hR := hq
              clear hq
              go_wp2_with fail
              refine (tick_any b _ ok2 (N - 1) _ gw gw2 hR).mono ?_
              rintro e w' ⟨rfl, hq, hf'⟩
              replace hq : RtcAt w' b (St.tr { s with ra := false } (N - 1)) := hq
              replace hB := Lib.hid (But.below hB.out hf' hWb hB.out.size)
              clear hR hf'
              have hR := hq
              clear hq
              rw [lt] at hR
              go_wp2_with fail
              refine (Met_any b _ _ hR).mono ?_
              rw [z1]
              rintro e w' ⟨rfl, hb'⟩
              replace hR := RtcAt.ext hR hb'
              replace hB := Lib.hid (below_then hB.out hb')
              clear hb'
              go_wp2_with fail
              refine (raised_any b _ _ hR).mono ?_
              rintro e w' ⟨rfl, hb'⟩
              replace hR := RtcAt.ext hR hb'
              replace hB := Lib.hid (below_then hB.out hb')
              clear hb'
              go_wp2_with fail
              refine (left_any b _ ok3 _ hR).mono ?_
              rw [z2]
              rintro e w' ⟨rfl, hb'⟩
              replace hR := RtcAt.ext hR hb'
              replace hB := Lib.hid (below_then hB.out hb')
              clear hb'
              go_wp2_with fail
              refine (tick_any b _ ok3 1 _ (by omega) (by omega) hR).mono ?_
              rintro e w' ⟨rfl, hq, hf'⟩
              replace hq : RtcAt w' b (St.tr ⟨s.alarm - 1, s.alarm, s.div - 1, s.set, true, false, s.div⟩ 1) := hq
              replace hB := Lib.hid (But.below hB.out hf' hWb hB.out.size)
              clear hR hf'
              have hR := hq
              clear hq
              rw [z3] at hR
              go_wp2_with fail
              refine (known10 _).mono ?_
              rintro e w' ⟨rfl, hb'⟩
              replace hR := RtcAt.ext hR hb'
              replace hB := Lib.hid (below_then hB.out hb')
              clear hb'
              go_wp2_with fail
              refine (Met_any b _ _ hR).mono ?_
              rw [z4]
              rintro e w' ⟨rfl, hb'⟩
              replace hR := RtcAt.ext hR hb'
              replace hB := Lib.hid (below_then hB.out hb')
              clear hb'
              go_wp2_with fail
              refine (raised_any b _ _ hR).mono ?_
              rintro e w' ⟨rfl, hb'⟩
              replace hR := RtcAt.ext hR hb'
              replace hB := Lib.hid (below_then hB.out hb')
              clear hb'
              go_wp2_with fail
              go_ret
              exact ⟨rfl, hB.out⟩
  · have hd : 1 ≤ dv := by omega
    clear hz
    have ok0 : (⟨0, 0, 0, 0, false, false, dv⟩ : St).ok := by constructor <;> dsimp only <;> omega
    go_enter Try.func5, Try.ntmps5
    go_wp2_with fail
    refine (new_any dv _ (by omega) (by omega)).mono ?_
    rintro e w1 ⟨b, rfl, hb, hR, hB1⟩
    have hblt : b < w1.heap.size := RowAt.lt hR
    obtain ⟨bm, hbm⟩ : ∃ bm, w1.heap.size = bm := ⟨_, rfl⟩
    go_wp2_with fail
    refine wp_name (Pr := fun W' => RtcAt W' b (⟨0, 0, 0, 0, false, false, dv⟩ : St) ∧ RowAt W' bm #[.int .u32 (⟨0, 0, 0, 0, false, false, dv⟩ : St).div, .int .u32 (⟨0, 0, 0, 0, false, false, dv⟩ : St).rest, .int .u32 (⟨0, 0, 0, 0, false, false, dv⟩ : St).set, .int .u64 (⟨0, 0, 0, 0, false, false, dv⟩ : St).sec, .int .u32 ((⟨0, 0, 0, 0, false, false, dv⟩ : St).alarm % 4294967296), .int .u32 ((⟨0, 0, 0, 0, false, false, dv⟩ : St).alarm / 4294967296), .bool (⟨0, 0, 0, 0, false, false, dv⟩ : St).en, .bool (⟨0, 0, 0, 0, false, false, dv⟩ : St).ra] 36 ∧ Below W.heap.size W W') ⟨RowAt.alloc hR _, by rw [← hbm]; exact RowAt.new _ _ _, below_new hB1 _⟩ ?_
    have hbne : b ≠ bm := by omega
    have hbmW : W.heap.size ≤ bm := by have := hB1.size; omega
    clear hbm hblt hR hB1
    rintro W2 ⟨hR, hM, hB⟩
    go_loopw [9, 12] (fun r i wr => ∃ (b : Nat) (s : St) (j : Nat), j ≤ 30 ∧ r = .pointer (some ⟨b, 0, none⟩) ∧ i = .int .i64 j ∧ s.ok ∧ RtcAt wr b s ∧ RowAt wr bm #[.int .u32 s.div, .int .u32 s.rest, .int .u32 s.set, .int .u64 s.sec, .int .u32 (s.alarm % 4294967296), .int .u32 (s.alarm / 4294967296), .bool s.en, .bool s.ra] 36 ∧ W.heap.size ≤ b ∧ b ≠ bm ∧ Below W.heap.size W wr) (fun _ i _ => 30 - (intOf i).toNat)
    case atStart => exact ⟨b, _, 0, by omega, rfl, rfl, ok0, hR, hM, hb, hbne, hB⟩
    case round =>
      clear hR hM hB ok0 hb hbne
      obtain ⟨b, s, j, hj, rfl, rfl, ok, hR, hM, hb, hbne, hB⟩ := hrel
      by_cases hlt : j < len ∧ j < 30
      · obtain ⟨hl1, hl2⟩ := hlt
        obtain ⟨ba, oa, k, n, off, v, rfl, hba, n0, n1, o0, o1, v0, v1, q0, q1, q2, q3⟩ := HFIT.out j hl1
        have hDO := Lib.hid (fun (w : World) (h : RtcAt w b s) => do_any b s ok k n off v w n0 n1 o0 o1 v0 v1 h)
        have qa0 := (hB.cell (p := ⟨ba, oa + j * 4, none⟩) hba).trans q0
        have qa1 := (hB.cell (p := ⟨ba, oa + j * 4 + 1, none⟩) hba).trans q1
        have qa2 := (hB.cell (p := ⟨ba, oa + j * 4 + 2, none⟩) hba).trans q2
        have qa3 := (hB.cell (p := ⟨ba, oa + j * 4 + 3, none⟩) hba).trans q3
        have HR := Lib.hid hR
        have HB := Lib.hid hB
        clear q0 q1 q2 q3 ok hR hB
        have c0 := hM.cell (i := 0) rfl
        have c1 := hM.cell (i := 1) rfl
        have c2 := hM.cell (i := 2) rfl
        have c3 := hM.cell (i := 3) rfl
        have c4 := hM.cell (i := 4) rfl
        have c5 := hM.cell (i := 5) rfl
        have c6 := hM.cell (i := 6) rfl
        have c7 := hM.cell (i := 7) rfl
        have fz := rowFz hM
        have g30 : decide ((j : Int) < 30) = true := by simp; omega
        go_upto_region 9 with (fail)
        go_region_with (go_at_call 19; refine (hDO.out _ (RowAt.drew HR.out)).mono ?_; rintro e wx ⟨b2, s2, rfl, ok2, hR2, hor, hFx⟩; have hMx := RowAt.but (RowAt.drew hM) hFx (Ne.symm hbne); have c0 := hMx.cell (i := 0) rfl; have c1 := hMx.cell (i := 1) rfl; have c2 := hMx.cell (i := 2) rfl; have c3 := hMx.cell (i := 3) rfl; have c4 := hMx.cell (i := 4) rfl; have c5 := hMx.cell (i := 5) rfl; have c6 := hMx.cell (i := 6) rfl; have c7 := hMx.cell (i := 7) rfl; have fz := rowFz hMx; have hok2 := Lib.hid ok2; have hhR2 := Lib.hid hR2; have hhFx := Lib.hid hFx; have hhor := Lib.hid hor; have hMM := Lib.hid hMx; clear ok2 hR2 hFx hor hMx)
        all_goals (
          have hB3 := But.below HB.out ((But.drew (But.refl b wr)).trans hhFx.out) hb HB.out.size
          have hbml := hM.lt
          have hb2W : W.heap.size ≤ b2 := by have q1 := hhor.out; have q2 := HB.out.size; clear hhFx hhR2 hMM hok2; (first | (simp only [World.drew] at q1; omega) | omega)
          have hb2m : b2 ≠ bm := by have q1 := hhor.out; clear hhFx hhR2 hMM hok2; (first | (simp only [World.drew] at q1; omega) | omega)
          dsimp only [Exit.then]
          refine k_name (Pr := fun W' => RowAt W' bm #[.int .u32 s2.div, .int .u32 s2.rest, .int .u32 s2.set, .int .u64 s2.sec, .int .u32 (s2.alarm % 4294967296), .int .u32 (s2.alarm / 4294967296), .bool s2.en, .bool s2.ra] 36 ∧ RtcAt W' b2 s2 ∧ Below W.heap.size W W') ⟨RowAt.set8 hMM.out _ _ _ _ _ _ _ _, (RowAt.other (RowAt.other (RowAt.other (RowAt.other (RowAt.other (RowAt.other (RowAt.other (RowAt.other hhR2.out hb2m _) hb2m _) hb2m _) hb2m _) hb2m _) hb2m _) hb2m _) hb2m _), below_set (below_set (below_set (below_set (below_set (below_set (below_set (below_set hB3 hbmW _) hbmW _) hbmW _) hbmW _) hbmW _) hbmW _) hbmW _) hbmW _⟩ ?_
          rintro W3 ⟨R3, hR3, hB5⟩
          clear hM c0 c1 c2 c3 c4 c5 c6 c7 fz qa0 qa1 qa2 qa3 hMM hhR2 hhFx hhor hB3 HB HR hDO hbml
          have hR4 := Lib.hid hR3
          have hB6 := Lib.hid hB5
          have R4 := Lib.hid R3
          clear hR3 hB5 R3
          go_at_K
          go_wp2_with fail
          go_roundw
          · exact ⟨b2, s2, j + 1, by omega, rfl, by simp, hok2.out, hR4.out, R4.out, hb2W, hb2m, hB6.out⟩
          · simp only [intOf]; omega)
      · by_cases h1 : j < len
        · have hj30 : j = 30 := by omega
          have g30 : decide ((j : Int) < 30) = false := by simp; omega
          by_cases hm : s.metB = true
          · clear HFIT hM hlt
            have hx0 : 0 ≤ x % 4611686018427387904 := by omega
            have hx1 : x % 4611686018427387904 ≤ 4611686018427387903 := by omega
            have hy0 : 0 ≤ y % 4611686018427387904 := by omega
            have hy1 : y % 4611686018427387904 ≤ 4611686018427387903 := by omega
            have hWb := hb
            replace hB := Lib.hid hB
            go_wp2_with fail
            have lt0 := RowAt.lt hR
            refine (copy_any b s _ hR).mono ?_
            rintro e w1 ⟨bx, rfl, hbx, hRx, hb'⟩
            have nx : bx ≠ b := by omega
            have hWbx : W.heap.size ≤ bx := by have := hB.out.size; omega
            replace hR := RtcAt.ext hR hb'
            replace hB := Lib.hid (below_then hB.out hb')
            clear hb' hbx lt0
            go_wp2_with fail
            have lt0 := RowAt.lt hR
            have lt1 := RowAt.lt hRx
            refine (copy_any b s _ hR).mono ?_
            rintro e w2 ⟨bY, rfl, hbY, hRy, hb'⟩
            have ny : bY ≠ b := by omega
            have nxy : bY ≠ bx := by omega
            have hWbY : W.heap.size ≤ bY := by have := hB.out.size; omega
            replace hR := RtcAt.ext hR hb'
            replace hRx := RtcAt.ext hRx hb'
            replace hB := Lib.hid (below_then hB.out hb')
            clear hb' hbY lt0 lt1
            go_wp2_with fail
            generalize x % 4611686018427387904 = X at *
            generalize y % 4611686018427387904 = Y at *
            clear x0 x1 y0 y1
            have okX := St.tr_ok s ok X (by omega) (by omega)
            have okT := St.tr_ok s ok (X + Y) (by omega) (by omega)
            have eT := St.tr_tr s ok X Y (by omega) (by omega) (by omega)
            refine (tick_any bx s ok X _ (by omega) (by omega) hRx).mono ?_
            rintro e w' ⟨rfl, hq, hf'⟩
            replace hq : RtcAt w' bx (s.tr X) := hq
            replace hR := RowAt.but hR hf' (Ne.symm nx)
            replace hRy := RowAt.but hRy hf' nxy
            replace hB := Lib.hid (But.below hB.out hf' hWbx hB.out.size)
            clear hRx hf'
            have hRx := hq
            clear hq
            go_wp2_with fail
            refine (tick_any bx (s.tr X) okX Y _ (by omega) (by omega) hRx).mono ?_
            rintro e w' ⟨rfl, hq, hf'⟩
            replace hq : RtcAt w' bx ((s.tr X).tr Y) := hq
            replace hR := RowAt.but hR hf' (Ne.symm nx)
            replace hRy := RowAt.but hRy hf' nxy
            replace hB := Lib.hid (But.below hB.out hf' hWbx hB.out.size)
            clear hRx hf'
            have hRx := hq
            clear hq
            rw [eT] at hRx
            clear eT
            go_wp2_with fail
            refine (tick_any bY s ok (X + Y) _ (by omega) (by omega) hRy).mono ?_
            rintro e w' ⟨rfl, hq, hf'⟩
            replace hq : RtcAt w' bY (s.tr (X + Y)) := hq
            replace hR := RowAt.but hR hf' (Ne.symm ny)
            replace hRx := RowAt.but hRx hf' (Ne.symm nxy)
            replace hB := Lib.hid (But.below hB.out hf' hWbY hB.out.size)
            clear hRy hf'
            have hRy := hq
            clear hq
            generalize s.tr (X + Y) = T at *
            clear okX nx ny nxy hWbx hWbY
            go_wp2_with fail
            refine (seconds_any bx T _ hRx).mono ?_
            rintro e w' ⟨rfl, hb'⟩
            replace hR := RtcAt.ext hR hb'
            replace hRx := RtcAt.ext hRx hb'
            replace hRy := RtcAt.ext hRy hb'
            replace hB := Lib.hid (below_then hB.out hb')
            clear hb'
            go_wp2_with fail
            refine (seconds_any bY T _ hRy).mono ?_
            rintro e w' ⟨rfl, hb'⟩
            replace hR := RtcAt.ext hR hb'
            replace hRx := RtcAt.ext hRx hb'
            replace hRy := RtcAt.ext hRy hb'
            replace hB := Lib.hid (below_then hB.out hb')
            clear hb'
            go_wp2_with fail
            refine (rest_any bx T _ hRx).mono ?_
            rintro e w' ⟨rfl, hb'⟩
            replace hR := RtcAt.ext hR hb'
            replace hRx := RtcAt.ext hRx hb'
            replace hRy := RtcAt.ext hRy hb'
            replace hB := Lib.hid (below_then hB.out hb')
            clear hb'
            go_wp2_with fail
            refine (rest_any bY T _ hRy).mono ?_
            rintro e w' ⟨rfl, hb'⟩
            replace hR := RtcAt.ext hR hb'
            replace hRx := RtcAt.ext hRx hb'
            replace hRy := RtcAt.ext hRy hb'
            replace hB := Lib.hid (below_then hB.out hb')
            clear hb'
            go_wp2_with fail
            refine (raised_any bx T _ hRx).mono ?_
            rintro e w' ⟨rfl, hb'⟩
            replace hR := RtcAt.ext hR hb'
            replace hRx := RtcAt.ext hRx hb'
            replace hRy := RtcAt.ext hRy hb'
            replace hB := Lib.hid (below_then hB.out hb')
            clear hb'
            go_wp2_with fail
            refine (raised_any bY T _ hRy).mono ?_
            rintro e w' ⟨rfl, hb'⟩
            replace hR := RtcAt.ext hR hb'
            replace hRx := RtcAt.ext hRx hb'
            replace hRy := RtcAt.ext hRy hb'
            replace hB := Lib.hid (below_then hB.out hb')
            clear hb'
            go_wp2_with fail
            refine (left_any bx T okT _ hRx).mono ?_
            rintro e w' ⟨rfl, hb'⟩
            replace hR := RtcAt.ext hR hb'
            replace hRx := RtcAt.ext hRx hb'
            replace hRy := RtcAt.ext hRy hb'
            replace hB := Lib.hid (below_then hB.out hb')
            clear hb'
            go_wp2_with fail
            refine (left_any bY T okT _ hRy).mono ?_
            rintro e w' ⟨rfl, hb'⟩
            replace hR := RtcAt.ext hR hb'
            replace hRx := RtcAt.ext hRx hb'
            replace hRy := RtcAt.ext hRy hb'
            replace hB := Lib.hid (below_then hB.out hb')
            clear hb'
            go_wp2_with fail
            clear hRx hRy okT
            refine (left_any b s ok _ hR).mono ?_
            rw [left_met s hm]
            rintro e w' ⟨rfl, hb'⟩
            replace hR := RtcAt.ext hR hb'
            replace hB := Lib.hid (below_then hB.out hb')
            clear hb'
            go_wp2_with fail
            refine (Met_any b s _ hR).mono ?_
            rw [hm]
            rintro e w' ⟨rfl, hb'⟩
            replace hR := RtcAt.ext hR hb'
            replace hB := Lib.hid (below_then hB.out hb')
            clear hb'
            go_wp2_with fail
            have lf := line_met s ok X hm
            have ok2 : St.ok { s with ra := false } := ⟨ok.s0, ok.s1, ok.a0, ok.a1, ok.r0, ok.r1, ok.t0, ok.t1, ok.d1⟩
            refine (store_any b s ok 28 1 _ (by omega) (by omega) (by omega) (by omega) hR).mono ?_
            rw [st28]
            rintro e w' ⟨rfl, hq, hf'⟩
            replace hB := Lib.hid (But.below hB.out hf' hWb hB.out.size)
            clear hR hf'
            have hR := hq
            clear hq
            go_wp2_with fail
            refine (tick_any b _ ok2 X _ (by omega) (by omega) hR).mono ?_
            rintro e w' ⟨rfl, hq, hf'⟩
            replace hq : RtcAt w' b (St.tr { s with ra := false } X) := hq
            replace hB := Lib.hid (But.below hB.out hf' hWb hB.out.size)
            clear hR hf'
            have hR := hq
            clear hq
            go_wp2_with fail
            refine (known10 _).mono ?_
            rintro e w' ⟨rfl, hb'⟩
            replace hR := RtcAt.ext hR hb'
            replace hB := Lib.hid (below_then hB.out hb')
            clear hb'
            go_wp2_with fail
            refine (raised_any b _ _ hR).mono ?_
            rw [lf]
            rintro e w' ⟨rfl, hb'⟩
            replace hR := RtcAt.ext hR hb'
            replace hB := Lib.hid (below_then hB.out hb')
            clear hb'
            go_wp2_with fail
            go_ret
            exact ⟨rfl, hB.out⟩
          · replace hm : s.metB = false := by simpa using hm
            by_cases hn : s.left = 18446744073709551615
            · clear HFIT hM hlt
              have hx0 : 0 ≤ x % 4611686018427387904 := by omega
              have hx1 : x % 4611686018427387904 ≤ 4611686018427387903 := by omega
              have hy0 : 0 ≤ y % 4611686018427387904 := by omega
              have hy1 : y % 4611686018427387904 ≤ 4611686018427387903 := by omega
              have hWb := hb
              replace hB := Lib.hid hB
              go_wp2_with fail
              have lt0 := RowAt.lt hR
              refine (copy_any b s _ hR).mono ?_
              rintro e w1 ⟨bx, rfl, hbx, hRx, hb'⟩
              have nx : bx ≠ b := by omega
              have hWbx : W.heap.size ≤ bx := by have := hB.out.size; omega
              replace hR := RtcAt.ext hR hb'
              replace hB := Lib.hid (below_then hB.out hb')
              clear hb' hbx lt0
              go_wp2_with fail
              have lt0 := RowAt.lt hR
              have lt1 := RowAt.lt hRx
              refine (copy_any b s _ hR).mono ?_
              rintro e w2 ⟨bY, rfl, hbY, hRy, hb'⟩
              have ny : bY ≠ b := by omega
              have nxy : bY ≠ bx := by omega
              have hWbY : W.heap.size ≤ bY := by have := hB.out.size; omega
              replace hR := RtcAt.ext hR hb'
              replace hRx := RtcAt.ext hRx hb'
              replace hB := Lib.hid (below_then hB.out hb')
              clear hb' hbY lt0 lt1
              go_wp2_with fail
              generalize x % 4611686018427387904 = X at *
              generalize y % 4611686018427387904 = Y at *
              clear x0 x1 y0 y1
              have okX := St.tr_ok s ok X (by omega) (by omega)
              have okT := St.tr_ok s ok (X + Y) (by omega) (by omega)
              have eT := St.tr_tr s ok X Y (by omega) (by omega) (by omega)
              refine (tick_any bx s ok X _ (by omega) (by omega) hRx).mono ?_
              rintro e w' ⟨rfl, hq, hf'⟩
              replace hq : RtcAt w' bx (s.tr X) := hq
              replace hR := RowAt.but hR hf' (Ne.symm nx)
              replace hRy := RowAt.but hRy hf' nxy
              replace hB := Lib.hid (But.below hB.out hf' hWbx hB.out.size)
              clear hRx hf'
              have hRx := hq
              clear hq
              go_wp2_with fail
              refine (tick_any bx (s.tr X) okX Y _ (by omega) (by omega) hRx).mono ?_
              rintro e w' ⟨rfl, hq, hf'⟩
              replace hq : RtcAt w' bx ((s.tr X).tr Y) := hq
              replace hR := RowAt.but hR hf' (Ne.symm nx)
              replace hRy := RowAt.but hRy hf' nxy
              replace hB := Lib.hid (But.below hB.out hf' hWbx hB.out.size)
              clear hRx hf'
              have hRx := hq
              clear hq
              rw [eT] at hRx
              clear eT
              go_wp2_with fail
              refine (tick_any bY s ok (X + Y) _ (by omega) (by omega) hRy).mono ?_
              rintro e w' ⟨rfl, hq, hf'⟩
              replace hq : RtcAt w' bY (s.tr (X + Y)) := hq
              replace hR := RowAt.but hR hf' (Ne.symm ny)
              replace hRx := RowAt.but hRx hf' (Ne.symm nxy)
              replace hB := Lib.hid (But.below hB.out hf' hWbY hB.out.size)
              clear hRy hf'
              have hRy := hq
              clear hq
              generalize s.tr (X + Y) = T at *
              clear okX nx ny nxy hWbx hWbY
              go_wp2_with fail
              refine (seconds_any bx T _ hRx).mono ?_
              rintro e w' ⟨rfl, hb'⟩
              replace hR := RtcAt.ext hR hb'
              replace hRx := RtcAt.ext hRx hb'
              replace hRy := RtcAt.ext hRy hb'
              replace hB := Lib.hid (below_then hB.out hb')
              clear hb'
              go_wp2_with fail
              refine (seconds_any bY T _ hRy).mono ?_
              rintro e w' ⟨rfl, hb'⟩
              replace hR := RtcAt.ext hR hb'
              replace hRx := RtcAt.ext hRx hb'
              replace hRy := RtcAt.ext hRy hb'
              replace hB := Lib.hid (below_then hB.out hb')
              clear hb'
              go_wp2_with fail
              refine (rest_any bx T _ hRx).mono ?_
              rintro e w' ⟨rfl, hb'⟩
              replace hR := RtcAt.ext hR hb'
              replace hRx := RtcAt.ext hRx hb'
              replace hRy := RtcAt.ext hRy hb'
              replace hB := Lib.hid (below_then hB.out hb')
              clear hb'
              go_wp2_with fail
              refine (rest_any bY T _ hRy).mono ?_
              rintro e w' ⟨rfl, hb'⟩
              replace hR := RtcAt.ext hR hb'
              replace hRx := RtcAt.ext hRx hb'
              replace hRy := RtcAt.ext hRy hb'
              replace hB := Lib.hid (below_then hB.out hb')
              clear hb'
              go_wp2_with fail
              refine (raised_any bx T _ hRx).mono ?_
              rintro e w' ⟨rfl, hb'⟩
              replace hR := RtcAt.ext hR hb'
              replace hRx := RtcAt.ext hRx hb'
              replace hRy := RtcAt.ext hRy hb'
              replace hB := Lib.hid (below_then hB.out hb')
              clear hb'
              go_wp2_with fail
              refine (raised_any bY T _ hRy).mono ?_
              rintro e w' ⟨rfl, hb'⟩
              replace hR := RtcAt.ext hR hb'
              replace hRx := RtcAt.ext hRx hb'
              replace hRy := RtcAt.ext hRy hb'
              replace hB := Lib.hid (below_then hB.out hb')
              clear hb'
              go_wp2_with fail
              refine (left_any bx T okT _ hRx).mono ?_
              rintro e w' ⟨rfl, hb'⟩
              replace hR := RtcAt.ext hR hb'
              replace hRx := RtcAt.ext hRx hb'
              replace hRy := RtcAt.ext hRy hb'
              replace hB := Lib.hid (below_then hB.out hb')
              clear hb'
              go_wp2_with fail
              refine (left_any bY T okT _ hRy).mono ?_
              rintro e w' ⟨rfl, hb'⟩
              replace hR := RtcAt.ext hR hb'
              replace hRx := RtcAt.ext hRx hb'
              replace hRy := RtcAt.ext hRy hb'
              replace hB := Lib.hid (below_then hB.out hb')
              clear hb'
              go_wp2_with fail
              clear hRx hRy okT
              refine (left_any b s ok _ hR).mono ?_
              rw [hn]
              rintro e w' ⟨rfl, hb'⟩
              replace hR := RtcAt.ext hR hb'
              replace hB := Lib.hid (below_then hB.out hb')
              clear hb'
              go_wp2_with fail
              refine (Met_any b s _ hR).mono ?_
              rw [hm]
              rintro e w' ⟨rfl, hb'⟩
              replace hR := RtcAt.ext hR hb'
              replace hB := Lib.hid (below_then hB.out hb')
              clear hb'
              go_wp2_with fail
              refine (known10 _).mono ?_
              rintro e w' ⟨rfl, hb'⟩
              replace hR := RtcAt.ext hR hb'
              replace hB := Lib.hid (below_then hB.out hb')
              clear hb'
              go_wp2_with fail
              go_ret
              exact ⟨rfl, hB.out⟩
            · clear HFIT hM hlt
              have hx0 : 0 ≤ x % 4611686018427387904 := by omega
              have hx1 : x % 4611686018427387904 ≤ 4611686018427387903 := by omega
              have hy0 : 0 ≤ y % 4611686018427387904 := by omega
              have hy1 : y % 4611686018427387904 ≤ 4611686018427387903 := by omega
              have hWb := hb
              replace hB := Lib.hid hB
              go_wp2_with fail
              have lt0 := RowAt.lt hR
              refine (copy_any b s _ hR).mono ?_
              rintro e w1 ⟨bx, rfl, hbx, hRx, hb'⟩
              have nx : bx ≠ b := by omega
              have hWbx : W.heap.size ≤ bx := by have := hB.out.size; omega
              replace hR := RtcAt.ext hR hb'
              replace hB := Lib.hid (below_then hB.out hb')
              clear hb' hbx lt0
              go_wp2_with fail
              have lt0 := RowAt.lt hR
              have lt1 := RowAt.lt hRx
              refine (copy_any b s _ hR).mono ?_
              rintro e w2 ⟨bY, rfl, hbY, hRy, hb'⟩
              have ny : bY ≠ b := by omega
              have nxy : bY ≠ bx := by omega
              have hWbY : W.heap.size ≤ bY := by have := hB.out.size; omega
              replace hR := RtcAt.ext hR hb'
              replace hRx := RtcAt.ext hRx hb'
              replace hB := Lib.hid (below_then hB.out hb')
              clear hb' hbY lt0 lt1
              go_wp2_with fail
              generalize x % 4611686018427387904 = X at *
              generalize y % 4611686018427387904 = Y at *
              clear x0 x1 y0 y1
              have okX := St.tr_ok s ok X (by omega) (by omega)
              have okT := St.tr_ok s ok (X + Y) (by omega) (by omega)
              have eT := St.tr_tr s ok X Y (by omega) (by omega) (by omega)
              refine (tick_any bx s ok X _ (by omega) (by omega) hRx).mono ?_
              rintro e w' ⟨rfl, hq, hf'⟩
              replace hq : RtcAt w' bx (s.tr X) := hq
              replace hR := RowAt.but hR hf' (Ne.symm nx)
              replace hRy := RowAt.but hRy hf' nxy
              replace hB := Lib.hid (But.below hB.out hf' hWbx hB.out.size)
              clear hRx hf'
              have hRx := hq
              clear hq
              go_wp2_with fail
              refine (tick_any bx (s.tr X) okX Y _ (by omega) (by omega) hRx).mono ?_
              rintro e w' ⟨rfl, hq, hf'⟩
              replace hq : RtcAt w' bx ((s.tr X).tr Y) := hq
              replace hR := RowAt.but hR hf' (Ne.symm nx)
              replace hRy := RowAt.but hRy hf' nxy
              replace hB := Lib.hid (But.below hB.out hf' hWbx hB.out.size)
              clear hRx hf'
              have hRx := hq
              clear hq
              rw [eT] at hRx
              clear eT
              go_wp2_with fail
              refine (tick_any bY s ok (X + Y) _ (by omega) (by omega) hRy).mono ?_
              rintro e w' ⟨rfl, hq, hf'⟩
              replace hq : RtcAt w' bY (s.tr (X + Y)) := hq
              replace hR := RowAt.but hR hf' (Ne.symm ny)
              replace hRx := RowAt.but hRx hf' (Ne.symm nxy)
              replace hB := Lib.hid (But.below hB.out hf' hWbY hB.out.size)
              clear hRy hf'
              have hRy := hq
              clear hq
              generalize s.tr (X + Y) = T at *
              clear okX nx ny nxy hWbx hWbY
              go_wp2_with fail
              refine (seconds_any bx T _ hRx).mono ?_
              rintro e w' ⟨rfl, hb'⟩
              replace hR := RtcAt.ext hR hb'
              replace hRx := RtcAt.ext hRx hb'
              replace hRy := RtcAt.ext hRy hb'
              replace hB := Lib.hid (below_then hB.out hb')
              clear hb'
              go_wp2_with fail
              refine (seconds_any bY T _ hRy).mono ?_
              rintro e w' ⟨rfl, hb'⟩
              replace hR := RtcAt.ext hR hb'
              replace hRx := RtcAt.ext hRx hb'
              replace hRy := RtcAt.ext hRy hb'
              replace hB := Lib.hid (below_then hB.out hb')
              clear hb'
              go_wp2_with fail
              refine (rest_any bx T _ hRx).mono ?_
              rintro e w' ⟨rfl, hb'⟩
              replace hR := RtcAt.ext hR hb'
              replace hRx := RtcAt.ext hRx hb'
              replace hRy := RtcAt.ext hRy hb'
              replace hB := Lib.hid (below_then hB.out hb')
              clear hb'
              go_wp2_with fail
              refine (rest_any bY T _ hRy).mono ?_
              rintro e w' ⟨rfl, hb'⟩
              replace hR := RtcAt.ext hR hb'
              replace hRx := RtcAt.ext hRx hb'
              replace hRy := RtcAt.ext hRy hb'
              replace hB := Lib.hid (below_then hB.out hb')
              clear hb'
              go_wp2_with fail
              refine (raised_any bx T _ hRx).mono ?_
              rintro e w' ⟨rfl, hb'⟩
              replace hR := RtcAt.ext hR hb'
              replace hRx := RtcAt.ext hRx hb'
              replace hRy := RtcAt.ext hRy hb'
              replace hB := Lib.hid (below_then hB.out hb')
              clear hb'
              go_wp2_with fail
              refine (raised_any bY T _ hRy).mono ?_
              rintro e w' ⟨rfl, hb'⟩
              replace hR := RtcAt.ext hR hb'
              replace hRx := RtcAt.ext hRx hb'
              replace hRy := RtcAt.ext hRy hb'
              replace hB := Lib.hid (below_then hB.out hb')
              clear hb'
              go_wp2_with fail
              refine (left_any bx T okT _ hRx).mono ?_
              rintro e w' ⟨rfl, hb'⟩
              replace hR := RtcAt.ext hR hb'
              replace hRx := RtcAt.ext hRx hb'
              replace hRy := RtcAt.ext hRy hb'
              replace hB := Lib.hid (below_then hB.out hb')
              clear hb'
              go_wp2_with fail
              refine (left_any bY T okT _ hRy).mono ?_
              rintro e w' ⟨rfl, hb'⟩
              replace hR := RtcAt.ext hR hb'
              replace hRx := RtcAt.ext hRx hb'
              replace hRy := RtcAt.ext hRy hb'
              replace hB := Lib.hid (below_then hB.out hb')
              clear hb'
              go_wp2_with fail
              clear hRx hRy okT
              obtain ⟨l1, l2, lt, ld, la⟩ := left_near s ok hm hn
              have ok2 : St.ok { s with ra := false } := ⟨ok.s0, ok.s1, ok.a0, ok.a1, ok.r0, ok.r1, ok.t0, ok.t1, ok.d1⟩
              have ok3 := St.tr_ok _ ok2 (s.left - 1) (by omega) (by omega)
              have la1 := ok.a1
              rw [lt] at ok3
              obtain ⟨z1, z2, z3, z4⟩ := last_facts s.alarm s.set s.div ld la la1 ok3
              have gn : (s.left == 18446744073709551615) = false := by simpa using hn
              have gz : (s.left == 0) = false := by simp; omega
              have gw : 0 ≤ s.left - 1 := by omega
              have gw2 : s.left - 1 ≤ 18446744073709551615 := by omega
              generalize hN : s.left = N at *
              refine (left_any b s ok _ hR).mono ?_
              rw [hN]
              rintro e w' ⟨rfl, hb'⟩
              replace hR := RtcAt.ext hR hb'
              replace hB := Lib.hid (below_then hB.out hb')
              clear hb'
              go_wp2_with fail
              refine (Met_any b s _ hR).mono ?_
              rw [hm]
              rintro e w' ⟨rfl, hb'⟩
              replace hR := RtcAt.ext hR hb'
              replace hB := Lib.hid (below_then hB.out hb')
              clear hb'
              go_wp2_with fail
              refine (store_any b s ok 28 1 _ (by omega) (by omega) (by omega) (by omega) hR).mono ?_
              rw [st28]
              rintro e w' ⟨rfl, hq, hf'⟩
              replace hB := Lib.hid (But.below hB.out hf' hWb hB.out.size)
              clear hR hf'
              have hR := hq
              clear hq
              go_wp2_with fail
              refine (tick_any b _ ok2 (N - 1) _ gw gw2 hR).mono ?_
              rintro e w' ⟨rfl, hq, hf'⟩
              replace hq : RtcAt w' b (St.tr { s with ra := false } (N - 1)) := hq
              replace hB := Lib.hid (But.below hB.out hf' hWb hB.out.size)
              clear hR hf'
              have hR := hq
              clear hq
              rw [lt] at hR
              go_wp2_with fail
              refine (Met_any b _ _ hR).mono ?_
              rw [z1]
              rintro e w' ⟨rfl, hb'⟩
              replace hR := RtcAt.ext hR hb'
              replace hB := Lib.hid (below_then hB.out hb')
              clear hb'
              go_wp2_with fail
              refine (raised_any b _ _ hR).mono ?_
              rintro e w' ⟨rfl, hb'⟩
              replace hR := RtcAt.ext hR hb'
              replace hB := Lib.hid (below_then hB.out hb')
              clear hb'
              go_wp2_with fail
              refine (left_any b _ ok3 _ hR).mono ?_
              rw [z2]
              rintro e w' ⟨rfl, hb'⟩
              replace hR := RtcAt.ext hR hb'
              replace hB := Lib.hid (below_then hB.out hb')
              clear hb'
              go_wp2_with fail
              refine (tick_any b _ ok3 1 _ (by omega) (by omega) hR).mono ?_
              rintro e w' ⟨rfl, hq, hf'⟩
              replace hq : RtcAt w' b (St.tr ⟨s.alarm - 1, s.alarm, s.div - 1, s.set, true, false, s.div⟩ 1) := hq
              replace hB := Lib.hid (But.below hB.out hf' hWb hB.out.size)
              clear hR hf'
              have hR := hq
              clear hq
              rw [z3] at hR
              go_wp2_with fail
              refine (known10 _).mono ?_
              rintro e w' ⟨rfl, hb'⟩
              replace hR := RtcAt.ext hR hb'
              replace hB := Lib.hid (below_then hB.out hb')
              clear hb'
              go_wp2_with fail
              refine (Met_any b _ _ hR).mono ?_
              rw [z4]
              rintro e w' ⟨rfl, hb'⟩
              replace hR := RtcAt.ext hR hb'
              replace hB := Lib.hid (below_then hB.out hb')
              clear hb'
              go_wp2_with fail
              refine (raised_any b _ _ hR).mono ?_
              rintro e w' ⟨rfl, hb'⟩
              replace hR := RtcAt.ext hR hb'
              replace hB := Lib.hid (below_then hB.out hb')
              clear hb'
              go_wp2_with fail
              go_ret
              exact ⟨rfl, hB.out⟩
        · have gl : decide ((j : Int) < (len : Int)) = false := by simp; omega
          by_cases hm : s.metB = true
          · clear HFIT hM hlt
            have hx0 : 0 ≤ x % 4611686018427387904 := by omega
            have hx1 : x % 4611686018427387904 ≤ 4611686018427387903 := by omega
            have hy0 : 0 ≤ y % 4611686018427387904 := by omega
            have hy1 : y % 4611686018427387904 ≤ 4611686018427387903 := by omega
            have hWb := hb
            replace hB := Lib.hid hB
            go_wp2_with fail
            have lt0 := RowAt.lt hR
            refine (copy_any b s _ hR).mono ?_
            rintro e w1 ⟨bx, rfl, hbx, hRx, hb'⟩
            have nx : bx ≠ b := by omega
            have hWbx : W.heap.size ≤ bx := by have := hB.out.size; omega
            replace hR := RtcAt.ext hR hb'
            replace hB := Lib.hid (below_then hB.out hb')
            clear hb' hbx lt0
            go_wp2_with fail
            have lt0 := RowAt.lt hR
            have lt1 := RowAt.lt hRx
            refine (copy_any b s _ hR).mono ?_
            rintro e w2 ⟨bY, rfl, hbY, hRy, hb'⟩
            have ny : bY ≠ b := by omega
            have nxy : bY ≠ bx := by omega
            have hWbY : W.heap.size ≤ bY := by have := hB.out.size; omega
            replace hR := RtcAt.ext hR hb'
            replace hRx := RtcAt.ext hRx hb'
            replace hB := Lib.hid (below_then hB.out hb')
            clear hb' hbY lt0 lt1
            go_wp2_with fail
            generalize x % 4611686018427387904 = X at *
            generalize y % 4611686018427387904 = Y at *
            clear x0 x1 y0 y1
            have okX := St.tr_ok s ok X (by omega) (by omega)
            have okT := St.tr_ok s ok (X + Y) (by omega) (by omega)
            have eT := St.tr_tr s ok X Y (by omega) (by omega) (by omega)
            refine (tick_any bx s ok X _ (by omega) (by omega) hRx).mono ?_
            rintro e w' ⟨rfl, hq, hf'⟩
            replace hq : RtcAt w' bx (s.tr X) := hq
            replace hR := RowAt.but hR hf' (Ne.symm nx)
            replace hRy := RowAt.but hRy hf' nxy
            replace hB := Lib.hid (But.below hB.out hf' hWbx hB.out.size)
            clear hRx hf'
            have hRx := hq
            clear hq
            go_wp2_with fail
            refine (tick_any bx (s.tr X) okX Y _ (by omega) (by omega) hRx).mono ?_
            rintro e w' ⟨rfl, hq, hf'⟩
            replace hq : RtcAt w' bx ((s.tr X).tr Y) := hq
            replace hR := RowAt.but hR hf' (Ne.symm nx)
            replace hRy := RowAt.but hRy hf' nxy
            replace hB := Lib.hid (But.below hB.out hf' hWbx hB.out.size)
            clear hRx hf'
            have hRx := hq
            clear hq
            rw [eT] at hRx
            clear eT
            go_wp2_with fail
            refine (tick_any bY s ok (X + Y) _ (by omega) (by omega) hRy).mono ?_
            rintro e w' ⟨rfl, hq, hf'⟩
            replace hq : RtcAt w' bY (s.tr (X + Y)) := hq
            replace hR := RowAt.but hR hf' (Ne.symm ny)
            replace hRx := RowAt.but hRx hf' (Ne.symm nxy)
            replace hB := Lib.hid (But.below hB.out hf' hWbY hB.out.size)
            clear hRy hf'
            have hRy := hq
            clear hq
            generalize s.tr (X + Y) = T at *
            clear okX nx ny nxy hWbx hWbY
            go_wp2_with fail
            refine (seconds_any bx T _ hRx).mono ?_
            rintro e w' ⟨rfl, hb'⟩
            replace hR := RtcAt.ext hR hb'
            replace hRx := RtcAt.ext hRx hb'
            replace hRy := RtcAt.ext hRy hb'
            replace hB := Lib.hid (below_then hB.out hb')
            clear hb'
            go_wp2_with fail
            refine (seconds_any bY T _ hRy).mono ?_
            rintro e w' ⟨rfl, hb'⟩
            replace hR := RtcAt.ext hR hb'
            replace hRx := RtcAt.ext hRx hb'
            replace hRy := RtcAt.ext hRy hb'
            replace hB := Lib.hid (below_then hB.out hb')
            clear hb'
            go_wp2_with fail
            refine (rest_any bx T _ hRx).mono ?_
            rintro e w' ⟨rfl, hb'⟩
            replace hR := RtcAt.ext hR hb'
            replace hRx := RtcAt.ext hRx hb'
            replace hRy := RtcAt.ext hRy hb'
            replace hB := Lib.hid (below_then hB.out hb')
            clear hb'
            go_wp2_with fail
            refine (rest_any bY T _ hRy).mono ?_
            rintro e w' ⟨rfl, hb'⟩
            replace hR := RtcAt.ext hR hb'
            replace hRx := RtcAt.ext hRx hb'
            replace hRy := RtcAt.ext hRy hb'
            replace hB := Lib.hid (below_then hB.out hb')
            clear hb'
            go_wp2_with fail
            refine (raised_any bx T _ hRx).mono ?_
            rintro e w' ⟨rfl, hb'⟩
            replace hR := RtcAt.ext hR hb'
            replace hRx := RtcAt.ext hRx hb'
            replace hRy := RtcAt.ext hRy hb'
            replace hB := Lib.hid (below_then hB.out hb')
            clear hb'
            go_wp2_with fail
            refine (raised_any bY T _ hRy).mono ?_
            rintro e w' ⟨rfl, hb'⟩
            replace hR := RtcAt.ext hR hb'
            replace hRx := RtcAt.ext hRx hb'
            replace hRy := RtcAt.ext hRy hb'
            replace hB := Lib.hid (below_then hB.out hb')
            clear hb'
            go_wp2_with fail
            refine (left_any bx T okT _ hRx).mono ?_
            rintro e w' ⟨rfl, hb'⟩
            replace hR := RtcAt.ext hR hb'
            replace hRx := RtcAt.ext hRx hb'
            replace hRy := RtcAt.ext hRy hb'
            replace hB := Lib.hid (below_then hB.out hb')
            clear hb'
            go_wp2_with fail
            refine (left_any bY T okT _ hRy).mono ?_
            rintro e w' ⟨rfl, hb'⟩
            replace hR := RtcAt.ext hR hb'
            replace hRx := RtcAt.ext hRx hb'
            replace hRy := RtcAt.ext hRy hb'
            replace hB := Lib.hid (below_then hB.out hb')
            clear hb'
            go_wp2_with fail
            clear hRx hRy okT
            refine (left_any b s ok _ hR).mono ?_
            rw [left_met s hm]
            rintro e w' ⟨rfl, hb'⟩
            replace hR := RtcAt.ext hR hb'
            replace hB := Lib.hid (below_then hB.out hb')
            clear hb'
            go_wp2_with fail
            refine (Met_any b s _ hR).mono ?_
            rw [hm]
            rintro e w' ⟨rfl, hb'⟩
            replace hR := RtcAt.ext hR hb'
            replace hB := Lib.hid (below_then hB.out hb')
            clear hb'
            go_wp2_with fail
            have lf := line_met s ok X hm
            have ok2 : St.ok { s with ra := false } := ⟨ok.s0, ok.s1, ok.a0, ok.a1, ok.r0, ok.r1, ok.t0, ok.t1, ok.d1⟩
            refine (store_any b s ok 28 1 _ (by omega) (by omega) (by omega) (by omega) hR).mono ?_
            rw [st28]
            rintro e w' ⟨rfl, hq, hf'⟩
            replace hB := Lib.hid (But.below hB.out hf' hWb hB.out.size)
            clear hR hf'
            have hR := hq
            clear hq
            go_wp2_with fail
            refine (tick_any b _ ok2 X _ (by omega) (by omega) hR).mono ?_
            rintro e w' ⟨rfl, hq, hf'⟩
            replace hq : RtcAt w' b (St.tr { s with ra := false } X) := hq
            replace hB := Lib.hid (But.below hB.out hf' hWb hB.out.size)
            clear hR hf'
            have hR := hq
            clear hq
            go_wp2_with fail
            refine (known10 _).mono ?_
            rintro e w' ⟨rfl, hb'⟩
            replace hR := RtcAt.ext hR hb'
            replace hB := Lib.hid (below_then hB.out hb')
            clear hb'
            go_wp2_with fail
            refine (raised_any b _ _ hR).mono ?_
            rw [lf]
            rintro e w' ⟨rfl, hb'⟩
            replace hR := RtcAt.ext hR hb'
            replace hB := Lib.hid (below_then hB.out hb')
            clear hb'
            go_wp2_with fail
            go_ret
            exact ⟨rfl, hB.out⟩
          · replace hm : s.metB = false := by simpa using hm
            by_cases hn : s.left = 18446744073709551615
            · clear HFIT hM hlt
              have hx0 : 0 ≤ x % 4611686018427387904 := by omega
              have hx1 : x % 4611686018427387904 ≤ 4611686018427387903 := by omega
              have hy0 : 0 ≤ y % 4611686018427387904 := by omega
              have hy1 : y % 4611686018427387904 ≤ 4611686018427387903 := by omega
              have hWb := hb
              replace hB := Lib.hid hB
              go_wp2_with fail
              have lt0 := RowAt.lt hR
              refine (copy_any b s _ hR).mono ?_
              rintro e w1 ⟨bx, rfl, hbx, hRx, hb'⟩
              have nx : bx ≠ b := by omega
              have hWbx : W.heap.size ≤ bx := by have := hB.out.size; omega
              replace hR := RtcAt.ext hR hb'
              replace hB := Lib.hid (below_then hB.out hb')
              clear hb' hbx lt0
              go_wp2_with fail
              have lt0 := RowAt.lt hR
              have lt1 := RowAt.lt hRx
              refine (copy_any b s _ hR).mono ?_
              rintro e w2 ⟨bY, rfl, hbY, hRy, hb'⟩
              have ny : bY ≠ b := by omega
              have nxy : bY ≠ bx := by omega
              have hWbY : W.heap.size ≤ bY := by have := hB.out.size; omega
              replace hR := RtcAt.ext hR hb'
              replace hRx := RtcAt.ext hRx hb'
              replace hB := Lib.hid (below_then hB.out hb')
              clear hb' hbY lt0 lt1
              go_wp2_with fail
              generalize x % 4611686018427387904 = X at *
              generalize y % 4611686018427387904 = Y at *
              clear x0 x1 y0 y1
              have okX := St.tr_ok s ok X (by omega) (by omega)
              have okT := St.tr_ok s ok (X + Y) (by omega) (by omega)
              have eT := St.tr_tr s ok X Y (by omega) (by omega) (by omega)
              refine (tick_any bx s ok X _ (by omega) (by omega) hRx).mono ?_
              rintro e w' ⟨rfl, hq, hf'⟩
              replace hq : RtcAt w' bx (s.tr X) := hq
              replace hR := RowAt.but hR hf' (Ne.symm nx)
              replace hRy := RowAt.but hRy hf' nxy
              replace hB := Lib.hid (But.below hB.out hf' hWbx hB.out.size)
              clear hRx hf'
              have hRx := hq
              clear hq
              go_wp2_with fail
              refine (tick_any bx (s.tr X) okX Y _ (by omega) (by omega) hRx).mono ?_
              rintro e w' ⟨rfl, hq, hf'⟩
              replace hq : RtcAt w' bx ((s.tr X).tr Y) := hq
              replace hR := RowAt.but hR hf' (Ne.symm nx)
              replace hRy := RowAt.but hRy hf' nxy
              replace hB := Lib.hid (But.below hB.out hf' hWbx hB.out.size)
              clear hRx hf'
              have hRx := hq
              clear hq
              rw [eT] at hRx
              clear eT
              go_wp2_with fail
              refine (tick_any bY s ok (X + Y) _ (by omega) (by omega) hRy).mono ?_
              rintro e w' ⟨rfl, hq, hf'⟩
              replace hq : RtcAt w' bY (s.tr (X + Y)) := hq
              replace hR := RowAt.but hR hf' (Ne.symm ny)
              replace hRx := RowAt.but hRx hf' (Ne.symm nxy)
              replace hB := Lib.hid (But.below hB.out hf' hWbY hB.out.size)
              clear hRy hf'
              have hRy := hq
              clear hq
              generalize s.tr (X + Y) = T at *
              clear okX nx ny nxy hWbx hWbY
              go_wp2_with fail
              refine (seconds_any bx T _ hRx).mono ?_
              rintro e w' ⟨rfl, hb'⟩
              replace hR := RtcAt.ext hR hb'
              replace hRx := RtcAt.ext hRx hb'
              replace hRy := RtcAt.ext hRy hb'
              replace hB := Lib.hid (below_then hB.out hb')
              clear hb'
              go_wp2_with fail
              refine (seconds_any bY T _ hRy).mono ?_
              rintro e w' ⟨rfl, hb'⟩
              replace hR := RtcAt.ext hR hb'
              replace hRx := RtcAt.ext hRx hb'
              replace hRy := RtcAt.ext hRy hb'
              replace hB := Lib.hid (below_then hB.out hb')
              clear hb'
              go_wp2_with fail
              refine (rest_any bx T _ hRx).mono ?_
              rintro e w' ⟨rfl, hb'⟩
              replace hR := RtcAt.ext hR hb'
              replace hRx := RtcAt.ext hRx hb'
              replace hRy := RtcAt.ext hRy hb'
              replace hB := Lib.hid (below_then hB.out hb')
              clear hb'
              go_wp2_with fail
              refine (rest_any bY T _ hRy).mono ?_
              rintro e w' ⟨rfl, hb'⟩
              replace hR := RtcAt.ext hR hb'
              replace hRx := RtcAt.ext hRx hb'
              replace hRy := RtcAt.ext hRy hb'
              replace hB := Lib.hid (below_then hB.out hb')
              clear hb'
              go_wp2_with fail
              refine (raised_any bx T _ hRx).mono ?_
              rintro e w' ⟨rfl, hb'⟩
              replace hR := RtcAt.ext hR hb'
              replace hRx := RtcAt.ext hRx hb'
              replace hRy := RtcAt.ext hRy hb'
              replace hB := Lib.hid (below_then hB.out hb')
              clear hb'
              go_wp2_with fail
              refine (raised_any bY T _ hRy).mono ?_
              rintro e w' ⟨rfl, hb'⟩
              replace hR := RtcAt.ext hR hb'
              replace hRx := RtcAt.ext hRx hb'
              replace hRy := RtcAt.ext hRy hb'
              replace hB := Lib.hid (below_then hB.out hb')
              clear hb'
              go_wp2_with fail
              refine (left_any bx T okT _ hRx).mono ?_
              rintro e w' ⟨rfl, hb'⟩
              replace hR := RtcAt.ext hR hb'
              replace hRx := RtcAt.ext hRx hb'
              replace hRy := RtcAt.ext hRy hb'
              replace hB := Lib.hid (below_then hB.out hb')
              clear hb'
              go_wp2_with fail
              refine (left_any bY T okT _ hRy).mono ?_
              rintro e w' ⟨rfl, hb'⟩
              replace hR := RtcAt.ext hR hb'
              replace hRx := RtcAt.ext hRx hb'
              replace hRy := RtcAt.ext hRy hb'
              replace hB := Lib.hid (below_then hB.out hb')
              clear hb'
              go_wp2_with fail
              clear hRx hRy okT
              refine (left_any b s ok _ hR).mono ?_
              rw [hn]
              rintro e w' ⟨rfl, hb'⟩
              replace hR := RtcAt.ext hR hb'
              replace hB := Lib.hid (below_then hB.out hb')
              clear hb'
              go_wp2_with fail
              refine (Met_any b s _ hR).mono ?_
              rw [hm]
              rintro e w' ⟨rfl, hb'⟩
              replace hR := RtcAt.ext hR hb'
              replace hB := Lib.hid (below_then hB.out hb')
              clear hb'
              go_wp2_with fail
              refine (known10 _).mono ?_
              rintro e w' ⟨rfl, hb'⟩
              replace hR := RtcAt.ext hR hb'
              replace hB := Lib.hid (below_then hB.out hb')
              clear hb'
              go_wp2_with fail
              go_ret
              exact ⟨rfl, hB.out⟩
            · clear HFIT hM hlt
              have hx0 : 0 ≤ x % 4611686018427387904 := by omega
              have hx1 : x % 4611686018427387904 ≤ 4611686018427387903 := by omega
              have hy0 : 0 ≤ y % 4611686018427387904 := by omega
              have hy1 : y % 4611686018427387904 ≤ 4611686018427387903 := by omega
              have hWb := hb
              replace hB := Lib.hid hB
              go_wp2_with fail
              have lt0 := RowAt.lt hR
              refine (copy_any b s _ hR).mono ?_
              rintro e w1 ⟨bx, rfl, hbx, hRx, hb'⟩
              have nx : bx ≠ b := by omega
              have hWbx : W.heap.size ≤ bx := by have := hB.out.size; omega
              replace hR := RtcAt.ext hR hb'
              replace hB := Lib.hid (below_then hB.out hb')
              clear hb' hbx lt0
              go_wp2_with fail
              have lt0 := RowAt.lt hR
              have lt1 := RowAt.lt hRx
              refine (copy_any b s _ hR).mono ?_
              rintro e w2 ⟨bY, rfl, hbY, hRy, hb'⟩
              have ny : bY ≠ b := by omega
              have nxy : bY ≠ bx := by omega
              have hWbY : W.heap.size ≤ bY := by have := hB.out.size; omega
              replace hR := RtcAt.ext hR hb'
              replace hRx := RtcAt.ext hRx hb'
              replace hB := Lib.hid (below_then hB.out hb')
              clear hb' hbY lt0 lt1
              go_wp2_with fail
              generalize x % 4611686018427387904 = X at *
              generalize y % 4611686018427387904 = Y at *
              clear x0 x1 y0 y1
              have okX := St.tr_ok s ok X (by omega) (by omega)
              have okT := St.tr_ok s ok (X + Y) (by omega) (by omega)
              have eT := St.tr_tr s ok X Y (by omega) (by omega) (by omega)
              refine (tick_any bx s ok X _ (by omega) (by omega) hRx).mono ?_
              rintro e w' ⟨rfl, hq, hf'⟩
              replace hq : RtcAt w' bx (s.tr X) := hq
              replace hR := RowAt.but hR hf' (Ne.symm nx)
              replace hRy := RowAt.but hRy hf' nxy
              replace hB := Lib.hid (But.below hB.out hf' hWbx hB.out.size)
              clear hRx hf'
              have hRx := hq
              clear hq
              go_wp2_with fail
              refine (tick_any bx (s.tr X) okX Y _ (by omega) (by omega) hRx).mono ?_
              rintro e w' ⟨rfl, hq, hf'⟩
              replace hq : RtcAt w' bx ((s.tr X).tr Y) := hq
              replace hR := RowAt.but hR hf' (Ne.symm nx)
              replace hRy := RowAt.but hRy hf' nxy
              replace hB := Lib.hid (But.below hB.out hf' hWbx hB.out.size)
              clear hRx hf'
              have hRx := hq
              clear hq
              rw [eT] at hRx
              clear eT
              go_wp2_with fail
              refine (tick_any bY s ok (X + Y) _ (by omega) (by omega) hRy).mono ?_
              rintro e w' ⟨rfl, hq, hf'⟩
              replace hq : RtcAt w' bY (s.tr (X + Y)) := hq
              replace hR := RowAt.but hR hf' (Ne.symm ny)
              replace hRx := RowAt.but hRx hf' (Ne.symm nxy)
              replace hB := Lib.hid (But.below hB.out hf' hWbY hB.out.size)
              clear hRy hf'
              have hRy := hq
              clear hq
              generalize s.tr (X + Y) = T at *
              clear okX nx ny nxy hWbx hWbY
              go_wp2_with fail
              refine (seconds_any bx T _ hRx).mono ?_
              rintro e w' ⟨rfl, hb'⟩
              replace hR := RtcAt.ext hR hb'
              replace hRx := RtcAt.ext hRx hb'
              replace hRy := RtcAt.ext hRy hb'
              replace hB := Lib.hid (below_then hB.out hb')
              clear hb'
              go_wp2_with fail
              refine (seconds_any bY T _ hRy).mono ?_
              rintro e w' ⟨rfl, hb'⟩
              replace hR := RtcAt.ext hR hb'
              replace hRx := RtcAt.ext hRx hb'
              replace hRy := RtcAt.ext hRy hb'
              replace hB := Lib.hid (below_then hB.out hb')
              clear hb'
              go_wp2_with fail
              refine (rest_any bx T _ hRx).mono ?_
              rintro e w' ⟨rfl, hb'⟩
              replace hR := RtcAt.ext hR hb'
              replace hRx := RtcAt.ext hRx hb'
              replace hRy := RtcAt.ext hRy hb'
              replace hB := Lib.hid (below_then hB.out hb')
              clear hb'
              go_wp2_with fail
              refine (rest_any bY T _ hRy).mono ?_
              rintro e w' ⟨rfl, hb'⟩
              replace hR := RtcAt.ext hR hb'
              replace hRx := RtcAt.ext hRx hb'
              replace hRy := RtcAt.ext hRy hb'
              replace hB := Lib.hid (below_then hB.out hb')
              clear hb'
              go_wp2_with fail
              refine (raised_any bx T _ hRx).mono ?_
              rintro e w' ⟨rfl, hb'⟩
              replace hR := RtcAt.ext hR hb'
              replace hRx := RtcAt.ext hRx hb'
              replace hRy := RtcAt.ext hRy hb'
              replace hB := Lib.hid (below_then hB.out hb')
              clear hb'
              go_wp2_with fail
              refine (raised_any bY T _ hRy).mono ?_
              rintro e w' ⟨rfl, hb'⟩
              replace hR := RtcAt.ext hR hb'
              replace hRx := RtcAt.ext hRx hb'
              replace hRy := RtcAt.ext hRy hb'
              replace hB := Lib.hid (below_then hB.out hb')
              clear hb'
              go_wp2_with fail
              refine (left_any bx T okT _ hRx).mono ?_
              rintro e w' ⟨rfl, hb'⟩
              replace hR := RtcAt.ext hR hb'
              replace hRx := RtcAt.ext hRx hb'
              replace hRy := RtcAt.ext hRy hb'
              replace hB := Lib.hid (below_then hB.out hb')
              clear hb'
              go_wp2_with fail
              refine (left_any bY T okT _ hRy).mono ?_
              rintro e w' ⟨rfl, hb'⟩
              replace hR := RtcAt.ext hR hb'
              replace hRx := RtcAt.ext hRx hb'
              replace hRy := RtcAt.ext hRy hb'
              replace hB := Lib.hid (below_then hB.out hb')
              clear hb'
              go_wp2_with fail
              clear hRx hRy okT
              obtain ⟨l1, l2, lt, ld, la⟩ := left_near s ok hm hn
              have ok2 : St.ok { s with ra := false } := ⟨ok.s0, ok.s1, ok.a0, ok.a1, ok.r0, ok.r1, ok.t0, ok.t1, ok.d1⟩
              have ok3 := St.tr_ok _ ok2 (s.left - 1) (by omega) (by omega)
              have la1 := ok.a1
              rw [lt] at ok3
              obtain ⟨z1, z2, z3, z4⟩ := last_facts s.alarm s.set s.div ld la la1 ok3
              have gn : (s.left == 18446744073709551615) = false := by simpa using hn
              have gz : (s.left == 0) = false := by simp; omega
              have gw : 0 ≤ s.left - 1 := by omega
              have gw2 : s.left - 1 ≤ 18446744073709551615 := by omega
              generalize hN : s.left = N at *
              refine (left_any b s ok _ hR).mono ?_
              rw [hN]
              rintro e w' ⟨rfl, hb'⟩
              replace hR := RtcAt.ext hR hb'
              replace hB := Lib.hid (below_then hB.out hb')
              clear hb'
              go_wp2_with fail
              refine (Met_any b s _ hR).mono ?_
              rw [hm]
              rintro e w' ⟨rfl, hb'⟩
              replace hR := RtcAt.ext hR hb'
              replace hB := Lib.hid (below_then hB.out hb')
              clear hb'
              go_wp2_with fail
              refine (store_any b s ok 28 1 _ (by omega) (by omega) (by omega) (by omega) hR).mono ?_
              rw [st28]
              rintro e w' ⟨rfl, hq, hf'⟩
              replace hB := Lib.hid (But.below hB.out hf' hWb hB.out.size)
              clear hR hf'
              have hR := hq
              clear hq
              go_wp2_with fail
              refine (tick_any b _ ok2 (N - 1) _ gw gw2 hR).mono ?_
              rintro e w' ⟨rfl, hq, hf'⟩
              replace hq : RtcAt w' b (St.tr { s with ra := false } (N - 1)) := hq
              replace hB := Lib.hid (But.below hB.out hf' hWb hB.out.size)
              clear hR hf'
              have hR := hq
              clear hq
              rw [lt] at hR
              go_wp2_with fail
              refine (Met_any b _ _ hR).mono ?_
              rw [z1]
              rintro e w' ⟨rfl, hb'⟩
              replace hR := RtcAt.ext hR hb'
              replace hB := Lib.hid (below_then hB.out hb')
              clear hb'
              go_wp2_with fail
              refine (raised_any b _ _ hR).mono ?_
              rintro e w' ⟨rfl, hb'⟩
              replace hR := RtcAt.ext hR hb'
              replace hB := Lib.hid (below_then hB.out hb')
              clear hb'
              go_wp2_with fail
              refine (left_any b _ ok3 _ hR).mono ?_
              rw [z2]
              rintro e w' ⟨rfl, hb'⟩
              replace hR := RtcAt.ext hR hb'
              replace hB := Lib.hid (below_then hB.out hb')
              clear hb'
              go_wp2_with fail
              refine (tick_any b _ ok3 1 _ (by omega) (by omega) hR).mono ?_
              rintro e w' ⟨rfl, hq, hf'⟩
              replace hq : RtcAt w' b (St.tr ⟨s.alarm - 1, s.alarm, s.div - 1, s.set, true, false, s.div⟩ 1) := hq
              replace hB := Lib.hid (But.below hB.out hf' hWb hB.out.size)
              clear hR hf'
              have hR := hq
              clear hq
              rw [z3] at hR
              go_wp2_with fail
              refine (known10 _).mono ?_
              rintro e w' ⟨rfl, hb'⟩
              replace hR := RtcAt.ext hR hb'
              replace hB := Lib.hid (below_then hB.out hb')
              clear hb'
              go_wp2_with fail
              refine (Met_any b _ _ hR).mono ?_
              rw [z4]
              rintro e w' ⟨rfl, hb'⟩
              replace hR := RtcAt.ext hR hb'
              replace hB := Lib.hid (below_then hB.out hb')
              clear hb'
              go_wp2_with fail
              refine (raised_any b _ _ hR).mono ?_
              rintro e w' ⟨rfl, hb'⟩
              replace hR := RtcAt.ext hR hb'
              replace hB := Lib.hid (below_then hB.out hb')
              clear hb'
              go_wp2_with fail
              go_ret
              exact ⟨rfl, hB.out⟩
end Go.Proofs.Ytdhgcmodlikckaa
