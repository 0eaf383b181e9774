/- The example of chapter 32. -/
import Derived.Test.YtdhgcmodlikckaaSkE
import Derived.Test.YtdhgcmodlikckaaSortI
namespace Go.Proofs.Ytdhgcmodlikckaa
open Go.RowKit
set_option linter.unusedVariables false
set_option linter.unusedSimpArgs false

theorem own_u {w : World} {base n : Nat} {s : Value} {xs : List Value} (h : w.ownsRow base 23 1 s n xs) (h0 : 0 < n) :
    ∃ g cap, s = .slice (some ⟨g, 0, none⟩) n cap ∧ base ≤ g ∧ g < w.heap.size ∧ ∀ i x, xs[i]? = some x → w.cell? ⟨g, i, none⟩ = some x := by
  obtain ⟨h1, h2 | ⟨g, cap, cur, hv, hb, hg, hn, hm, hs, ht⟩⟩ := h
  · exact absurd h2.2 (by omega)
  · have hr : RowAt w g (xs ++ cur.toList.drop (n * 1)).toArray 23 := by
      rw [← ht, List.take_append_drop]
      exact hg
    exact ⟨g, cap, hv, hb, block_lt hg, fun i x hx => hr.cell (by rw [List.getElem?_toArray, List.getElem?_append_left (List.getElem?_eq_some_iff.1 hx).1]; exact hx)⟩
set_option maxHeartbeats 8000000 in
set_option maxRecDepth 100000 in
theorem plan_kw (bl : Nat) (w : World) (hk : KwAt w bl) :
    Calls Try.prog 27 #[.slice (some ⟨bl, 0, none⟩) 3 3] w fun e w' => ∃ u, e = .returned (.tuple #[u, .int .i64 0]) ∧ w'.ownsRow w.heap.size 23 1 u 2 [.int .u64 5, .int .u64 8] ∧ Below w.heap.size w w' := by
  have HK := Lib.hid hk
  have HT := Lib.hid (taken_kw bl w hk)
  clear hk
  go_enter Try.func27, Try.ntmps27
  go_upto_region 3 with (go_at_call 58; refine HT.out.mono ?_; rintro e w1 ⟨u, rfl, hu, hb1⟩)
  obtain ⟨g, cap, rfl, hg1, hg2, hn, -, hc⟩ := own_int hu (by decide)
  have HB1 := Lib.hid hb1
  have HC := Lib.hid hc
  have HGL := Lib.hid hg2
  clear hu hb1 hc hg1 hg2 HT
  go_upto_region 4 with fail
  refine wp_loop_rounds 3 ?_
  rw [rounds_succ]
  have y0 : w1.cell? ⟨g, 0, none⟩ = some (.int .i64 0) := HC.out 0 _ rfl
  obtain ⟨⟨k0, k1⟩, ⟨k2, k3⟩, k4, k5⟩ := (HK.out.ext HB1.out).cells
  go_wp2_with (at_builtin; refine wpList_grow1_at rfl (.tmp 20) (.tmp 26) 54 rfl w.heap.size 23 1 8 Try.underlying54 (by kernel_rfl) (by decide) (by decide) _ 0 [] rfl (World.ownsRow_nil _ _ _ _) [.int .u64 5] rfl rfl (by simp [Value.oneCell']) (by decide) HB1.out.size _ ?_; intro v2 w2 ho hy hk; have HO2 := Lib.hid ho; have HY2 := Lib.hid hy; have HB2 := Lib.hid (Only.below HB1.out hy (fun k hk => by have h : some k = none := hk; cases h) HB1.out.size); clear ho hy hk)
  clear y0 k0 k1 k2 k3 k4 k5
  rw [rounds_succ]
  have y1 : w2.cell? ⟨g, 1, none⟩ = some (.int .i64 2) := cell_only (HC.out 1 _ rfl) HY2.out (by intro e; cases e)
  obtain ⟨⟨k0, k1⟩, ⟨k2, k3⟩, k4, k5⟩ := (HK.out.ext HB2.out).cells
  go_wp2_with (at_builtin; refine wpList_grow1_at rfl (.tmp 20) (.tmp 26) 54 rfl w.heap.size 23 1 8 Try.underlying54 (by kernel_rfl) (by decide) (by decide) _ 1 _ rfl HO2.out [.int .u64 8] rfl rfl (by simp [Value.oneCell']) (by decide) HB2.out.size _ ?_; intro v3 w3 ho hy hk; have HO3 := Lib.hid ho; have HY3 := Lib.hid hy; have HB3 := Lib.hid (Only.below HB2.out hy (fun k hk => (ownsRow_base HO2.out k hk.symm).1) HB2.out.size); clear ho hy hk)
  clear y1 k0 k1 k2 k3 k4 k5
  rw [rounds_succ]
  go_wp2_with fail
  refine bodyPost_ret (v := .tuple #[v3, .int .i64 0]) (by simp [results, Try.results27, go_sem]) rfl ⟨_, rfl, HO3.out, HB3.out⟩
theorem sorted02 : sorted [0, 2] = [0, 2] := List.mergeSort_of_pairwise (by simp)
set_option maxHeartbeats 8000000 in
set_option maxRecDepth 100000 in
theorem apart_kw (bl : Nat) (w : World) (hk : KwAt w bl) :
    Calls Try.prog 28 #[.slice (some ⟨bl, 0, none⟩) 3 3] w fun e w' => ∃ g c, e = .returned (.tuple #[.slice (some ⟨g, 0, none⟩) 2 c, .int .i64 0]) ∧ w.heap.size ≤ g ∧ g < w'.heap.size ∧ (w'.cell? ⟨g, 0, none⟩ = some (.int .i64 0) ∧ w'.cell? ⟨g, 1, none⟩ = some (.int .i64 2)) ∧ Below w.heap.size w w' := by
  have HT := Lib.hid (taken_kw bl w hk)
  clear hk
  go_enter Try.func28, Try.ntmps28
  go_upto_region 2 with (go_at_call 58; refine HT.out.mono ?_; rintro e w1 ⟨u, rfl, hu, hb1⟩)
  have hs := sort_own w.heap.size u [0, 2] w1 hu (by decide)
  rw [sorted02] at hs
  have HS := Lib.hid hs
  have HU := Lib.hid hu
  have HB1 := Lib.hid hb1
  clear hs hb1 HT
  go_wp2_with (go_at_call 59; refine HS.out.mono ?_; rintro e w2 ⟨rfl, hi, ho⟩; have HI := Lib.hid hi; have HO := Lib.hid ho; clear hi ho)
  obtain ⟨a, c, he, h4⟩ := HI.out
  obtain ⟨g, h1, h2, h3, h5⟩ := h4 (by decide)
  subst h1
  refine bodyPost_ret (v := .tuple #[u, .int .i64 0]) (by simp [results, Try.results28, go_sem]) rfl ⟨g, c, by rw [he]; rfl, h2, h3, ⟨h5 0 _ rfl, h5 1 _ rfl⟩, Only.below HB1.out HO.out (fun k hk => (ownsRow_base HU.out k hk.symm).1) HB1.out.size⟩
set_option maxHeartbeats 8000000 in
set_option maxRecDepth 100000 in
theorem known32 (w : World) :
    Calls Try.prog 30 #[] w fun e w' => e = .returned (.bool true) ∧ Below w.heap.size w w' := by
  obtain ⟨W, hW⟩ : ∃ W, w.alloc (.cells #[.int .u64 1, .int .u64 5, .int .u64 4, .int .u64 9, .int .u64 6, .int .u64 8] 53 ) = W := ⟨_, rfl⟩
  have hbW : Below w.heap.size w W := hW ▸ below_new (Below.refl _ _) _
  have hK : KwAt W w.heap.size := hW ▸ RowAt.new w _ _
  have HBW := Lib.hid hbW
  have HK := Lib.hid hK
  clear hbW hK
  go_enter Try.func30, Try.ntmps30
  go_upto_region 3 with (go_at_call 27; refine (plan_kw w.heap.size W HK.out).mono ?_; rintro e w1 ⟨u, rfl, hu, hb1⟩)
  obtain ⟨g, cap, rfl, hg1, hg2, hc⟩ := own_u hu (by decide)
  have HC := Lib.hid hc
  have HB1 := Lib.hid hb1
  clear hu hc hb1 hW
  go_upto_region 4 with (go_at_call 28; refine (apart_kw w.heap.size _ (HK.out.ext HB1.out)).mono ?_; rintro e w2 ⟨g2, c2, rfl, hg3, hg4, ⟨r0, r1⟩, hb2⟩)
  have p0 : w2.cell? ⟨g, 0, none⟩ = some (.int .u64 5) := (hb2.cell (p := ⟨g, 0, none⟩) hg2).trans (HC.out 0 _ rfl)
  have p1 : w2.cell? ⟨g, 1, none⟩ = some (.int .u64 8) := (hb2.cell (p := ⟨g, 1, none⟩) hg2).trans (HC.out 1 _ rfl)
  have HB2 := Lib.hid hb2
  clear hb2 HC hg1 hg2 hg3 hg4
  go_wp2_with fail
  go_ret
  exact ⟨rfl, below_then (below_then HBW.out HB1.out) HB2.out⟩
end Go.Proofs.Ytdhgcmodlikckaa
