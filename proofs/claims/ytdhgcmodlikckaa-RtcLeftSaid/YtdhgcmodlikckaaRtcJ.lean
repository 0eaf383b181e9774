/- Whatever a clock is asked: the walk of the law RtcPlays. -/
import Derived.Test.YtdhgcmodlikckaaRtcI
import Derived.Deep.RegionWith
import Derived.Test.YtdhgcmodlikckaaRtcH
import Derived.Test.YtdhgcmodlikckaaArgs
namespace Go.Proofs.Ytdhgcmodlikckaa
open Go.RowKit
set_option linter.unusedVariables false
set_option linter.unusedSimpArgs false

theorem list4 {α : Type} {l : List α} (h : l.length = 4) : ∃ a b c d, l = [a, b, c, d] := by
  match l, h with
  | [a, b, c, d], _ => exact ⟨a, b, c, d, rfl⟩
theorem cell_spot {W : World} {a : Addr} {v : Value} (h : W.cell? a = some v) : a.spot = none := by
  unfold World.cell? at h
  cases hs : a.spot with
  | none => rfl
  | some x =>
    rw [hs] at h
    split at h <;> simp at h
theorem add_plain (b o i j : Nat) : (⟨b, o, none⟩ : Addr).add (i * 4 + j) = ⟨b, o + i * 4 + j, none⟩ := by
  unfold Addr.add
  split
  · rename_i h
    have h1 : i = 0 := by omega
    have h2 : j = 0 := by omega
    subst h1 h2
    rfl
  · rw [Nat.add_assoc]
def actSh : List Sh := [.int .i64, .int .u64, .int .u32, .int .u32]
set_option maxRecDepth 10000 in
/-- What one element of a slice of calls is. -/
theorem act_at {W : World} {a : Option Addr} {len cap : Nat} (h : Fit1 W (.slice actSh) (.slice a len cap)) {i : Nat} (hi : i < len) :
    ∃ (b o : Nat) (k n off v : Int), a = some ⟨b, o, none⟩ ∧ b < W.heap.size ∧ 0 ≤ n ∧ n ≤ 18446744073709551615 ∧ 0 ≤ off ∧ off ≤ 4294967295 ∧ 0 ≤ v ∧ v ≤ 4294967295 ∧
      W.cell? ⟨b, o + i * 4, none⟩ = some (.int .i64 k) ∧ W.cell? ⟨b, o + i * 4 + 1, none⟩ = some (.int .u64 n) ∧ W.cell? ⟨b, o + i * 4 + 2, none⟩ = some (.int .u32 off) ∧ W.cell? ⟨b, o + i * 4 + 3, none⟩ = some (.int .u32 v) := by
  unfold Fit1 at h
  rcases h with h | ⟨a', len', cap', h1, -, -, h4⟩
  · simp only [Value.slice.injEq] at h
    omega
  · simp only [Value.slice.injEq] at h1
    obtain ⟨e1, e2, e3⟩ := h1
    subst e1
    rw [← e2] at h4
    clear e2 e3
    obtain ⟨cs, hc, hf⟩ := h4 i hi
    have hl := hf.length
    obtain ⟨c0, c1, c2, c3, rfl⟩ := list4 hl
    simp only [actSh, Fits, Fit1, and_true] at hf
    obtain ⟨⟨k, rfl, hk⟩, ⟨n, rfl, hn⟩, ⟨off, rfl, ho⟩, ⟨v, rfl, hv⟩⟩ := hf
    have q0 := hc 0 (by simp [actSh])
    have q1 := hc 1 (by simp [actSh])
    have q2 := hc 2 (by simp [actSh])
    have q3 := hc 3 (by simp [actSh])
    obtain ⟨bb, oo, sp⟩ := a'
    have hsp : sp = none := by
      obtain ⟨cs0, hc0, hf0⟩ := h4 0 (by omega)
      have hl0 := hf0.length
      have z := hc0 0 (by show 0 < 4; omega)
      rw [List.getElem?_eq_getElem (by rw [hl0]; show 0 < 4; omega)] at z
      have z2 : (⟨bb, oo, sp⟩ : Addr).add (0 * actSh.length + 0) = ⟨bb, oo, sp⟩ := rfl
      rw [z2] at z
      exact cell_spot z
    subst hsp
    have e : ∀ j, (⟨bb, oo, none⟩ : Addr).add (i * actSh.length + j) = ⟨bb, oo + i * 4 + j, none⟩ := fun j => add_plain bb oo i j
    rw [e] at q0 q1 q2 q3
    have hlt := World.block_lt_of_cell? W _ q0
    have hn' := bounds_u64 hn
    have ho' := bounds_u32 ho
    have hv' := bounds_u32 hv
    exact ⟨bb, oo, k, n, off, v, rfl, hlt, hn'.1, hn'.2, ho'.1, ho'.2, hv'.1, hv'.2, q0, q1, q2, q3⟩
set_option maxHeartbeats 4000000 in
set_option maxRecDepth 100000 in
theorem RtcPlays_walk (dv : Int) (a : Option Addr) (len cap : Nat) (W : World) (d0 : 0 ≤ dv) (d1 : dv ≤ 4294967295) (hf : Fit1 W (.slice actSh) (.slice a len cap)) :
    Calls Try.prog 4 #[.int .u32 dv, .slice a len cap] W fun e w' => e = .returned (.bool true) ∧ Below W.heap.size W w' := by
  have HFIT := Lib.hid (fun i (hi : i < len) => act_at hf hi)
  clear hf
  by_cases hz : dv = 0
  · subst hz
    go_enter Try.func4, Try.ntmps4
    go_wp2_with fail
    refine (new_zero _).mono ?_
    rintro e w1 ⟨rfl, hb1⟩
    go_wp2_with fail
    refine (known10 _).mono ?_
    rintro e w2 ⟨rfl, hb2⟩
    go_wp2_with fail
    go_ret
    exact ⟨rfl, below_then hb1 hb2⟩
  · have g0 : (dv == 0) = false := by simpa using hz
    have ok0 : (⟨0, 0, 0, 0, false, false, dv⟩ : St).ok := by constructor <;> dsimp only <;> omega
    have hd : 1 ≤ dv := by omega
    clear hz
    go_enter Try.func4, Try.ntmps4
    go_wp2_with fail
    refine (new_any dv _ hd d1).mono ?_
    rintro e w1 ⟨b, rfl, hb, hR, hB1⟩
    have hblt : b < w1.heap.size := RowAt.lt hR
    obtain ⟨bm, hbm⟩ : ∃ bm, w1.heap.size = bm := ⟨_, rfl⟩
    go_wp2_with fail
    refine wp_name (Pr := fun W' => RtcAt W' b ⟨0, 0, 0, 0, false, false, dv⟩ ∧ RowAt W' bm #[.int .u32 (⟨0, 0, 0, 0, false, false, dv⟩ : St).div, .int .u32 (⟨0, 0, 0, 0, false, false, dv⟩ : St).rest, .int .u32 (⟨0, 0, 0, 0, false, false, dv⟩ : St).set, .int .u64 (⟨0, 0, 0, 0, false, false, dv⟩ : St).sec, .int .u32 ((⟨0, 0, 0, 0, false, false, dv⟩ : St).alarm % 4294967296), .int .u32 ((⟨0, 0, 0, 0, false, false, dv⟩ : St).alarm / 4294967296), .bool (⟨0, 0, 0, 0, false, false, dv⟩ : St).en, .bool (⟨0, 0, 0, 0, false, false, dv⟩ : St).ra] 36 ∧ Below W.heap.size W W') ⟨RowAt.alloc hR _, by rw [← hbm]; exact RowAt.new _ _ _, below_new hB1 _⟩ ?_
    have hbne : b ≠ bm := by omega
    have hbmW : W.heap.size ≤ bm := by have := hB1.size; omega
    clear hbm hblt hR hB1
    rintro W2 ⟨hR, hM, hB⟩
    go_loopw [5, 8] (fun r i wr => ∃ (b : Nat) (s : St) (j : Nat), j ≤ 80 ∧ r = .pointer (some ⟨b, 0, none⟩) ∧ i = .int .i64 j ∧ s.ok ∧ RtcAt wr b s ∧ RowAt wr bm #[.int .u32 s.div, .int .u32 s.rest, .int .u32 s.set, .int .u64 s.sec, .int .u32 (s.alarm % 4294967296), .int .u32 (s.alarm / 4294967296), .bool s.en, .bool s.ra] 36 ∧ W.heap.size ≤ b ∧ b ≠ bm ∧ Below W.heap.size W wr) (fun _ i _ => 80 - (intOf i).toNat)
    case atStart => exact ⟨b, _, 0, by omega, rfl, rfl, ok0, hR, hM, hb, hbne, hB⟩
    case round =>
      clear hR hM hB ok0 hb hbne
      obtain ⟨b, s, j, hj, rfl, rfl, ok, hR, hM, hb, hbne, hB⟩ := hrel
      by_cases hlt : j < len ∧ j < 80
      · obtain ⟨hl1, hl2⟩ := hlt
        obtain ⟨ba, oa, k, n, off, v, rfl, hba, n0, n1, o0, o1, v0, v1, q0, q1, q2, q3⟩ := HFIT.out j hl1
        have hDO := Lib.hid (fun (w : World) (h : RtcAt w b s) => do_any b s ok k n off v w n0 n1 o0 o1 v0 v1 h)
        have qa0 := (hB.cell (p := ⟨ba, oa + j * 4, none⟩) hba).trans q0
        have qa1 := (hB.cell (p := ⟨ba, oa + j * 4 + 1, none⟩) hba).trans q1
        have qa2 := (hB.cell (p := ⟨ba, oa + j * 4 + 2, none⟩) hba).trans q2
        have qa3 := (hB.cell (p := ⟨ba, oa + j * 4 + 3, none⟩) hba).trans q3
        have hOK := Lib.hid ok
        have HR := Lib.hid hR
        have HB := Lib.hid hB
        have HFIT2 := HFIT
        clear q0 q1 q2 q3 ok hR hB
        have c0 := hM.cell (i := 0) rfl
        have c1 := hM.cell (i := 1) rfl
        have c2 := hM.cell (i := 2) rfl
        have c3 := hM.cell (i := 3) rfl
        have c4 := hM.cell (i := 4) rfl
        have c5 := hM.cell (i := 5) rfl
        have c6 := hM.cell (i := 6) rfl
        have c7 := hM.cell (i := 7) rfl
        have fz := rowFz hM
        have g80 : decide ((j : Int) < 80) = true := by simp; omega
        go_upto_region 11 with (fail)
        go_region_with (go_at_call 19; refine (hDO.out _ (RowAt.drew HR.out)).mono ?_; rintro e wx ⟨b2, s2, rfl, ok2, hR2, hor, hFx⟩; have hMx := RowAt.but (RowAt.drew hM) hFx (Ne.symm hbne); have c0 := hMx.cell (i := 0) rfl; have c1 := hMx.cell (i := 1) rfl; have c2 := hMx.cell (i := 2) rfl; have c3 := hMx.cell (i := 3) rfl; have c4 := hMx.cell (i := 4) rfl; have c5 := hMx.cell (i := 5) rfl; have c6 := hMx.cell (i := 6) rfl; have c7 := hMx.cell (i := 7) rfl; have fz := rowFz hMx; have hok2 := Lib.hid ok2; have hhR2 := Lib.hid hR2; have hhFx := Lib.hid hFx; have hhor := Lib.hid hor; have hMM := Lib.hid hMx; clear ok2 hR2 hFx hor hMx)
        all_goals (
          have hB3 := But.below HB.out ((But.drew (But.refl b wr)).trans hhFx.out) hb HB.out.size
          have hbml := hM.lt
          have hb2W : W.heap.size ≤ b2 := by have q1 := hhor.out; have q2 := HB.out.size; clear hhFx hhR2 hMM hok2; (first | (simp only [World.drew] at q1; omega) | omega)
          have hb2m : b2 ≠ bm := by have q1 := hhor.out; clear hhFx hhR2 hMM hok2; (first | (simp only [World.drew] at q1; omega) | omega)
          dsimp only [Exit.then]
          refine k_name (Pr := fun W' => RowAt W' bm #[.int .u32 s2.div, .int .u32 s2.rest, .int .u32 s2.set, .int .u64 s2.sec, .int .u32 (s2.alarm % 4294967296), .int .u32 (s2.alarm / 4294967296), .bool s2.en, .bool s2.ra] 36 ∧ RtcAt W' b2 s2 ∧ Below W.heap.size W W') ⟨RowAt.set8 hMM.out _ _ _ _ _ _ _ _, (RowAt.other (RowAt.other (RowAt.other (RowAt.other (RowAt.other (RowAt.other (RowAt.other (RowAt.other hhR2.out hb2m _) hb2m _) hb2m _) hb2m _) hb2m _) hb2m _) hb2m _) hb2m _), below_set (below_set (below_set (below_set (below_set (below_set (below_set (below_set hB3 hbmW _) hbmW _) hbmW _) hbmW _) hbmW _) hbmW _) hbmW _) hbmW _⟩ ?_
          rintro W3 ⟨R3, hR3, hB5⟩
          clear hM c0 c1 c2 c3 c4 c5 c6 c7 fz qa0 qa1 qa2 qa3 hMM hhR2 hhFx hhor hB3 HB HR hDO hbml
          have c0 := R3.cell (i := 0) rfl
          have c1 := R3.cell (i := 1) rfl
          have c2 := R3.cell (i := 2) rfl
          have c3 := R3.cell (i := 3) rfl
          have c4 := R3.cell (i := 4) rfl
          have c5 := R3.cell (i := 5) rfl
          have c6 := R3.cell (i := 6) rfl
          have c7 := R3.cell (i := 7) rfl
          have fz := rowFz R3
          have hAL := alike_any b2 s2 hok2.out W3 hR3
          have hR4 := Lib.hid hR3
          have hB6 := Lib.hid hB5
          have R4 := Lib.hid R3
          clear hR3 hB5 R3
          go_at_K
          go_wp2_with fail
          refine hAL.mono ?_
          rintro e w4 ⟨rfl, hb4⟩
          go_wp2_with fail
          go_roundw
          · exact ⟨b2, s2, j + 1, by omega, rfl, by simp, hok2.out, RtcAt.ext hR4.out hb4, RowAt.ext R4.out hb4, hb2W, hb2m, below_then hB6.out hb4⟩
          · simp only [intOf]; omega)
      · have hend : j < len → ¬ j < 80 := fun h h2 => hlt ⟨h, h2⟩
        by_cases h1 : j < len
        · have g80 : decide ((j : Int) < 80) = false := by have := hend h1; simp; omega
          go_wp2_with fail
          refine (known10 _).mono ?_
          rintro e w2 ⟨rfl, hb2⟩
          go_wp2_with fail
          go_ret
          exact ⟨rfl, below_then hB hb2⟩
        · have gl : decide ((j : Int) < (len : Int)) = false := by simp; omega
          go_wp2_with fail
          refine (known10 _).mono ?_
          rintro e w2 ⟨rfl, hb2⟩
          go_wp2_with fail
          go_ret
          exact ⟨rfl, below_then hB hb2⟩
end Go.Proofs.Ytdhgcmodlikckaa
