/- BusApart: the walk. -/
import Derived.Test.YtgkklgebgabncaaBuM
namespace Go.Proofs.Ytgkklgebgabncaa
open Go.RowKit
set_option linter.unusedVariables false
set_option linter.unusedSimpArgs false
open Go.Lib Go.Sort
def vals (X Y : Nat) (v u : Int) : Nat → Int := fun i => if i = Y then u else if i = X then v else (i : Int)
theorem own_cells {w : World} {base n : Nat} {s : Value} {F : Nat → Nat} (h : w.ownsRow base 23 1 s n ((List.range n).map fun j => pv (F j))) (h0 : 0 < n) :
    ∃ g cap, s = .slice (some ⟨g, 0, none⟩) n cap ∧ g < w.heap.size ∧ ∀ i, i < n → w.cell? ⟨g, i, none⟩ = some (pv (F i)) := by
  obtain ⟨h1, h2 | ⟨g, cap, cur, hv, hb, hg, hn, hm, hs, ht⟩⟩ := h
  · exact absurd h2.2 (by omega)
  · refine ⟨g, cap, hv, block_lt hg, fun i hi => ?_⟩
    rw [cell_of_row w g i cur 23 (0, 0) hg, ← Array.getElem?_toList]
    have e1 : (cur.toList.take (n * 1))[i]? = cur.toList[i]? := by rw [List.getElem?_take, if_pos (by omega)]
    rw [← e1, ht]
    simp [hi]
set_option maxHeartbeats 8000000 in
set_option maxRecDepth 100000 in
theorem BusApart_walk (n m v u : Int) (W : World) (n0 : -9223372036854775808 ≤ n) (n1 : n ≤ 9223372036854775807) (m0 : -9223372036854775808 ≤ m) (m1 : m ≤ 9223372036854775807) (v0 : 0 ≤ v) (v1 : v ≤ 4294967295) (u0 : 0 ≤ u) (u1 : u ≤ 4294967295) :
    Calls Try.prog 8 #[.int .i64 n, .int .i64 m, .int .u32 v, .int .u32 u] W fun e w' => e = .returned (.bool true) ∧ Below W.heap.size W w' := by
  obtain ⟨X, hX, eX⟩ := mod8 n
  obtain ⟨Y, hY, eY⟩ := mod8 m
  go_enter Try.func8, Try.ntmps8
  go_upto_region 4 with (go_at_call 30; refine (bnew_any _).mono ?_; rintro e w1 ⟨b, bm, rfl, hb0, hbm0, hA, hB1⟩)
  obtain ⟨base, hbase⟩ : ∃ B, w1.heap.size = B := ⟨_, rfl⟩
  have HBB := Lib.hid (show b < base ∧ bm < base ∧ W.heap.size ≤ bm ∧ W.heap.size ≤ base from by have := hA.lt; have := hB1.size; omega)
  have HST := Lib.hid (show Ap W b bm base 0 (fun _ => 0) (fun _ => 0) (.slice none 0 0) w1 0 from ⟨⟨[], 0, hA, BuOk.nil, rfl, fun q hq => by simp at hq, fun j hj => by omega⟩, fun j hj => by omega, fun j hj => by omega, fun i j _ hj => by omega, World.ownsRow_nil _ _ _ _, fun j hj => by omega, hB1⟩)
  have HB0 := Lib.hid (Nat.le_of_eq hbase.symm)
  clear hA hB1 hb0 hbm0 hbase
  go_loopw [10, 11] (fun s i wr => ∃ (k : Nat) (F G : Nat → Nat), k ≤ 8 ∧ i = .int .i64 k ∧ base ≤ wr.heap.size ∧ Ap W b bm base k F G s wr k) (fun _ i _ => 8 - (intOf i).toNat)
  case atStart => exact ⟨0, _, _, by omega, rfl, HB0.out, HST.out⟩
  case round =>
    clear HST HB0
    obtain ⟨k, F, G, hk, rfl, hbw, hap⟩ := hrel
    have HBW := Lib.hid hbw
    have HAP := Lib.hid hap
    clear hbw hap
    by_cases hlt : k < 8
    · have t0 : decide ((k : Int) < 8) = true := dec_t (by omega)
      obtain ⟨M, c, hB⟩ := HAP.out.bu
      have HK := Lib.hid hB
      have HLT := Lib.hid hB.at'.lt
      have hatt : attE M (64 * (k : Int), 16) = 0 := att_ap hB.len hlt hB.of
      have HR := Lib.hid (r32A hlt)
      have HOK := Lib.hid (show Rg.ok ⟨(k : Int), 0, 4294967295, 0⟩ from by unfold Rg.ok; dsimp only; omega)
      have c1 : IntKind.u32.wrap (k : Int) = (k : Int) := by rw [IntKind.wrap_u32]; omega
      have c2 : IntKind.u32.wrap (64 * (k : Int)) = 64 * (k : Int) := by rw [IntKind.wrap_u32]; omega
      have c3 : wrap64 ((k : Int) + 1) = (k : Int) + 1 := by unfold wrap64; omega
      clear hB
      go_upto_region 9 with (first | (go_at_call 10; refine (rnew_any _).mono ?_; rintro e w2 ⟨f, fm, rfl, hf0, hfm0, hF, hb2⟩) | (go_at_call 12; refine (define_put f fm (fun _ => none) 4 ⟨(k : Int), 0, 4294967295, 0⟩ _ hF (by decide) (by decide) (by decide) rfl HOK).mono ?_; rintro e w3 ⟨rfl, hF3, hO3⟩; rw [put_fileS] at hF3) | (go_at_call 31; refine (attach_any b bm M c (64 * (k : Int)) 16 23 (pv f) _ ((HK.out.at'.ext hb2).only hO3 (by have := HLT.out; omega) (by have := HLT.out; omega)) HK.out.ok HR.out).mono ?_; rintro e w4 ⟨rfl, ⟨c4, hA4⟩, hO4⟩; rw [hatt]))
      have h4 := HAP.out.step hlt HBB.out.1 HBB.out.2.1 HBB.out.2.2.1 HK.out hf0 hfm0 hb2 hF3 hO3 hA4 hO4 HBW.out
      refine wp_name (Pr := fun W4 => base ≤ W4.heap.size ∧ Ap W b bm base k (up F k f) (up G k fm) u10 W4 (k + 1)) ⟨?_, h4⟩ ?_
      · have := HBW.out; have := hb2.size; have := hO3.size; have := hO4.size; omega
      clear HAP HK HLT hatt HR HOK HBW hf0 hfm0 hF hb2 hF3 hO3 hA4 hO4 h4 c1 c2
      rintro W4 ⟨hbw, h4⟩
      have HBW := Lib.hid hbw
      have HAP := Lib.hid h4
      clear hbw h4
      have HAL := Lib.hid HAP.out.ow
      rw [show (List.range k).map (fun j => pv (up F k f j)) = (List.range k).map fun j => pv (F j) from List.map_congr_left fun j hj => by rw [up_lt F (List.mem_range.1 hj)]] at HAL
      have HKS := Lib.hid (show k ≤ 1000000000 by omega)
      go_wp2_with (at_builtin; refine wpList_grow1_at rfl (.tmp 50) (.tmp 52) 68 rfl base 23 1 8 Try.underlying68 (by kernel_rfl) (by decide) (by decide) _ _ _ rfl HAL.out [pv f] rfl (by first | (go_simp; done) | (simp; done)) (by intro u hu; simp only [List.mem_cons, List.not_mem_nil, or_false] at hu; subst hu; rfl) HKS.out HBW.out _ ?_; intro v' w5 hown5 hO5 hat5)
      go_roundw
      case measure => simp only [intOf]; omega
      case rel =>
        have hs5 : base ≤ w5.heap.size := by have h1 := hO5.size; have h2 := HBW.out; omega
        refine ⟨k + 1, up F k f, up G k fm, by omega, by simp, hs5, Ap.app HAP.out HBB.out.1 HBB.out.2.1 HBB.out.2.2.2 ?_ hO5 (hat5.imp (fun h => h) fun h => ⟨_, Nat.le_succ _, h⟩)⟩
        rw [up_at, show (List.range k).map (fun j => pv (up F k f j)) = (List.range k).map fun j => pv (F j) from List.map_congr_left fun j hj => by rw [up_lt F (List.mem_range.1 hj)]]
        exact hown5
    · obtain rfl : k = 8 := by omega
      obtain ⟨M, c, hB⟩ := HAP.out.bu
      have HK := Lib.hid hB
      have hatt : attE M (4096, 16) = 0 := att_nine hB.len hB.of
      obtain ⟨g, cap, hsl, hg, hcell⟩ := own_cells HAP.out.ow (by decide)
      have cX := hcell X hX
      have HSP := Lib.hid (show Sep b bm base F G from ⟨HAP.out.lo, HAP.out.ord, HBB.out.1, HBB.out.2.1⟩)
      have tX0 : (X : Int) < 8 := by omega
      have tX : decide ((X : Int) < 8) = true := dec_t tX0
      have t0 : decide (((8 : Nat) : Int) < 8) = false := rfl
      have x2 : IntKind.u32.wrap (64 * (X : Int)) = 64 * (X : Int) := by rw [IntKind.wrap_u32]; omega
      have x3 : IntKind.u32.wrap (64 * (X : Int) + 4) = 64 * (X : Int) + 4 := by rw [IntKind.wrap_u32]; omega
      have y2 : IntKind.u32.wrap (64 * (Y : Int)) = 64 * (Y : Int) := by rw [IntKind.wrap_u32]; omega
      have y3 : IntKind.u32.wrap (64 * (Y : Int) + 4) = 64 * (Y : Int) + 4 := by rw [IntKind.wrap_u32]; omega
      subst hsl
      clear hcell hB
      go_upto_region 11 with fail
      go_upto_region 13 with (first | (go_at_call 31; refine (attach_any b bm M c 4096 16 23 (pv (F X)) _ HK.out.at' HK.out.ok r32N).mono ?_; rintro e w1' ⟨rfl, ⟨c4, hA4⟩, hO4⟩; rw [hatt]; have HN1 := Lib.hid (HAP.out.nine HK.out HBB.out.1 HBB.out.2.1 HBB.out.2.2.1 hA4 hO4); clear hA4 hO4) | (go_at_call 35; refine (nine_sto HN1.out HSP.out HBB.out.2.2.2 X hX v v0 v1 ⟨by omega, by omega⟩).mono ?_; rintro e w2' ⟨rfl, hn⟩; have HN2 := Lib.hid hn; clear hn HN1) | (go_at_call 35; refine (nine_sto HN2.out HSP.out HBB.out.2.2.2 Y hY u u0 u1 (by split; exact ⟨v0, v1⟩; omega)).mono ?_; rintro e w3' ⟨rfl, hn⟩; have HN3 := Lib.hid hn; clear hn HN2))
      refine wp_name (Pr := fun W5 => Nine W b bm F G X (vals X Y v u) W5) HN3.out ?_
      clear HN3 HSP HK HAP HBW hatt cX hg tX0 tX t0
      rintro W5 hn
      have HN := Lib.hid hn
      clear hn
      go_upto_region 14 with fail
      go_loopw [15] (fun i wr => ∃ k : Nat, k ≤ 8 ∧ i = .int .u32 k ∧ Nine W b bm F G X (vals X Y v u) wr) (fun i _ => 8 - (intOf i).toNat)
      case atStart => exact ⟨0, by omega, rfl, HN.out⟩
      case round =>
        clear HN
        obtain ⟨k, hk, rfl, hn⟩ := hrel
        have HN := Lib.hid hn
        clear hn
        by_cases hlt : k < 8
        · have t0 : decide ((k : Int) < 8) = true := dec_t (by omega)
          have c2 : IntKind.u32.wrap (64 * (k : Int)) = 64 * (k : Int) := by rw [IntKind.wrap_u32]; omega
          have c3 : IntKind.u32.wrap (64 * (k : Int) + 4) = 64 * (k : Int) + 4 := by rw [IntKind.wrap_u32]; omega
          have c4 : IntKind.u32.wrap ((k : Int) + 1) = (k : Int) + 1 := by rw [IntKind.wrap_u32]; omega
          by_cases hY' : k = Y
          · subst hY'
            have hv : vals X k v u k = u := by unfold vals; rw [if_pos rfl]
            by_cases hX' : k = X
            · subst hX'
              go_wp2_with (go_at_call 34; refine (nine_load HN.out k hlt).mono ?_; rintro e w6 ⟨rfl, hb⟩; rw [hv])
              go_roundw
              case measure => simp only [intOf]; omega
              case rel => exact ⟨k + 1, by omega, by simp, HN.out.ext hb⟩
            · have q : ((k : Int) == (X : Int)) = false := by simp; omega
              go_wp2_with (go_at_call 34; refine (nine_load HN.out k hlt).mono ?_; rintro e w6 ⟨rfl, hb⟩; rw [hv])
              go_roundw
              case measure => simp only [intOf]; omega
              case rel => exact ⟨k + 1, by omega, by simp, HN.out.ext hb⟩
          · have q2 : ((k : Int) == (Y : Int)) = false := by simp; omega
            by_cases hX' : k = X
            · subst hX'
              have hv : vals k Y v u k = v := by unfold vals; rw [if_neg hY', if_pos rfl]
              go_wp2_with (go_at_call 34; refine (nine_load HN.out k hlt).mono ?_; rintro e w6 ⟨rfl, hb⟩; rw [hv])
              go_roundw
              case measure => simp only [intOf]; omega
              case rel => exact ⟨k + 1, by omega, by simp, HN.out.ext hb⟩
            · have q : ((k : Int) == (X : Int)) = false := by simp; omega
              have hv : vals X Y v u k = (k : Int) := by unfold vals; rw [if_neg hY', if_neg hX']
              go_wp2_with (go_at_call 34; refine (nine_load HN.out k hlt).mono ?_; rintro e w6 ⟨rfl, hb⟩; rw [hv])
              go_roundw
              case measure => simp only [intOf]; omega
              case rel => exact ⟨k + 1, by omega, by simp, HN.out.ext hb⟩
        · obtain rfl : k = 8 := by omega
          obtain ⟨V, hV⟩ : ∃ V, vals X Y v u X = V := ⟨_, rfl⟩
          go_upto_region 25 with (go_at_call 34; refine (nine_load HN.out X hX).mono ?_; rintro e w6 ⟨rfl, hb6⟩; rw [hV])
          go_upto_region 26 with (go_at_call 34; refine (nine_two (HN.out.ext hb6) hX).mono ?_; rintro e w7 ⟨rfl, hb7⟩; rw [hV])
          have HB7 := Lib.hid (below_then (below_then HN.out.bel hb6) hb7)
          clear hb6 hb7
          go_wp2_with (go_at_call 25; refine (known03 _).mono ?_; rintro e w8 ⟨rfl, hb8⟩)
          go_ret
          exact ⟨rfl, below_then HB7.out hb8⟩
end Go.Proofs.Ytgkklgebgabncaa
