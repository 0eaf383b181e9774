/- The example's windows, taken. -/
import Derived.Test.YtdhgcmodlikckaaSkD
namespace Go.Proofs.Ytdhgcmodlikckaa
open Go.RowKit
set_option linter.unusedVariables false
set_option linter.unusedSimpArgs false

theorem ownsRow_le {w : World} {b1 b2 : Nat} {e : TypeId} {size : Nat} {v : Value} {k : Nat} {xs : List Value} (h : w.ownsRow b2 e size v k xs) (hb : b1 ≤ b2) : w.ownsRow b1 e size v k xs := by
  obtain ⟨h1, h2 | ⟨g, cap, cur, rfl, hb', hg⟩⟩ := h
  · exact ⟨h1, .inl h2⟩
  · exact ⟨h1, .inr ⟨g, cap, cur, rfl, Nat.le_trans hb hb', hg⟩⟩
theorem own_int {w : World} {base n : Nat} {s : Value} {xs : List Value} (h : w.ownsRow base 3 1 s n xs) (h0 : 0 < n) :
    ∃ g cap, s = .slice (some ⟨g, 0, none⟩) n cap ∧ base ≤ g ∧ g < w.heap.size ∧ n ≤ cap ∧ (∃ z, RowAt w g (xs ++ z).toArray 3) ∧ ∀ i x, xs[i]? = some x → w.cell? ⟨g, i, none⟩ = some x := by
  obtain ⟨h1, h2 | ⟨g, cap, cur, hv, hb, hg, hn, hm, hs, ht⟩⟩ := h
  · exact absurd h2.2 (by omega)
  · have hr : RowAt w g (xs ++ cur.toList.drop (n * 1)).toArray 3 := by
      rw [← ht, List.take_append_drop]
      exact hg
    exact ⟨g, cap, hv, hb, block_lt hg, hn, ⟨_, hr⟩, fun i x hx => hr.cell (by rw [List.getElem?_toArray, List.getElem?_append_left (List.getElem?_eq_some_iff.1 hx).1]; exact hx)⟩
/-- The state of the second loop. -/
structure KSt (w W : World) (bl g : Nat) (z : List Value) (V : World) (u : Value) (n : Nat) (xs : List Value) : Prop where
  rk : KwAt V bl
  rx : RowAt V w.heap.size #[.slice (some ⟨bl, 0, none⟩) 3 3] 48
  rg : RowAt V g (d3 0 2 1 z).toArray 3
  rb : Below W.heap.size W V
  ro : V.ownsRow W.heap.size 3 1 u n xs
  ap : u.ownBlock ≠ some g
  kl : bl < W.heap.size
  wl : w.heap.size < W.heap.size
theorem KSt.ext {w W V V' : World} {bl g n : Nat} {z xs : List Value} {u : Value} (h : KSt w W bl g z V u n xs) (hb : Below V.heap.size V V') : KSt w W bl g z V' u n xs :=
  { h with rk := h.rk.ext hb, rx := RowAt.ext h.rx hb, rg := RowAt.ext h.rg hb, rb := below_then h.rb hb, ro := ownsRow_only h.ro (only_of hb (fun _ => False)) (fun _ _ => id) }
theorem KSt.grow {w W V V' : World} {bl g n : Nat} {z xs ys : List Value} {u u' : Value} (h : KSt w W bl g z V u n xs) (ho : V'.ownsRow W.heap.size 3 1 u' (n + 1) (xs ++ ys)) (hy : Only (fun k => some k = u.ownBlock) V V') (hk : u'.ownBlock = u.ownBlock ∨ u'.ownBlock = some (V.heap.size + 1)) : KSt w W bl g z V' u' (n + 1) (xs ++ ys) := by
  have hbase : ∀ k, some k = u.ownBlock → W.heap.size ≤ k := fun k e => (ownsRow_base h.ro k e.symm).1
  refine ⟨RowAt.only h.rk hy (fun e => by have h1 := hbase _ e; have h2 := h.kl; omega), RowAt.only h.rx hy (fun e => by have h1 := hbase _ e; have h2 := h.wl; omega), RowAt.only h.rg hy (fun e => h.ap e.symm), Only.below h.rb hy hbase h.rb.size, ho, ?_, h.kl, h.wl⟩
  rcases hk with q | q
  · rw [q]; exact h.ap
  · rw [q]
    intro e
    have h1 := RowAt.lt h.rg
    injection e with e
    omega
theorem hit1 : (decide ((6 : Int) ≤ 5) && decide ((5 : Int) ≤ 8)) = false := by decide
theorem hit2 : (decide ((4 : Int) ≤ 8) && decide ((8 : Int) ≤ 9)) = true := by decide
set_option maxHeartbeats 8000000 in
set_option maxRecDepth 100000 in
theorem taken_kw (bl : Nat) (w : World) (hk : KwAt w bl) :
    Calls Try.prog 58 #[.slice (some ⟨bl, 0, none⟩) 3 3] w fun e w' => ∃ u, e = .returned (.tuple #[u, .int .i64 0]) ∧ w'.ownsRow w.heap.size 3 1 u 2 [.int .i64 0, .int .i64 2] ∧ Below w.heap.size w w' := by
  obtain ⟨W, hW⟩ : ∃ W, w.alloc (.cells #[.slice (some ⟨bl, 0, none⟩) 3 3] 48 ) = W := ⟨_, rfl⟩
  have hbW : Below w.heap.size w W := hW ▸ below_new (Below.refl _ _) _
  have hX : RowAt W w.heap.size #[.slice (some ⟨bl, 0, none⟩) 3 3] 48 := hW ▸ RowAt.new w _ _
  have hkb : bl < w.heap.size := RowAt.lt hk
  have HKL := Lib.hid hkb
  have HX := Lib.hid hX
  have HBW := Lib.hid hbW
  have HK := Lib.hid (hk.ext hbW)
  have HSW := Lib.hid (show W.heap.size = w.heap.size + 1 by rw [← hW]; simp)
  have HC := Lib.hid (contains_kw bl W HK.out)
  have x0 := hX.cell (i := 0) rfl
  clear hk hbW hX hkb
  go_enter Try.func58, Try.ntmps58
  go_wp2_with fail
  go_step3
  go_upto_region 5 with (go_at_call 65; refine HC.out.mono ?_; rintro e w1 ⟨rfl, hb1⟩; have HB := Lib.hid hb1; have x0 := (RowAt.ext HX.out hb1).cell (i := 0) rfl; clear hb1)
  clear hW HC
  refine wp_loop_rounds 4 ?_
  rw [rounds_succ]
  go_wp2_with (at_builtin; refine wpList_grow1_at rfl (.tmp 17) (.tmp 19) 57 rfl W.heap.size 3 1 8 Try.underlying57 (by kernel_rfl) (by decide) (by decide) _ 0 [] rfl (World.ownsRow_nil _ _ _ _) [.int .i64 0] rfl rfl (by simp [Value.oneCell']) (by decide) HB.out.size _ ?_; intro v2 w2 ho hy hk; have HO2 := Lib.hid ho; have HY2 := Lib.hid hy; have HKB2 := Lib.hid hk; clear ho hy hk)
  have hb' := Only.below HB.out HY2.out (fun k hk => by have h : some k = none := hk; cases h) HB.out.size
  clear HB
  have HB := Lib.hid hb'
  clear hb'
  rw [rounds_succ]
  go_wp2_with (at_builtin; refine wpList_grow1_at rfl (.tmp 17) (.tmp 19) 57 rfl W.heap.size 3 1 8 Try.underlying57 (by kernel_rfl) (by decide) (by decide) _ 1 _ rfl HO2.out [.int .i64 1] rfl rfl (by simp [Value.oneCell']) (by decide) HB.out.size _ ?_; intro v3 w3 ho hy hk; have HO3 := Lib.hid ho; have HY3 := Lib.hid hy; have HKB3 := Lib.hid hk; clear ho hy hk)
  have hb' := Only.below HB.out HY3.out (fun k hk => (ownsRow_base HO2.out k hk.symm).1) HB.out.size
  clear HB
  have HB := Lib.hid hb'
  clear hb'
  rw [rounds_succ]
  go_wp2_with (at_builtin; refine wpList_grow1_at rfl (.tmp 17) (.tmp 19) 57 rfl W.heap.size 3 1 8 Try.underlying57 (by kernel_rfl) (by decide) (by decide) _ 2 _ rfl HO3.out [.int .i64 2] rfl rfl (by simp [Value.oneCell']) (by decide) HB.out.size _ ?_; intro v4 w4 ho hy hk; have HO4 := Lib.hid ho; have HY4 := Lib.hid hy; have HKB4 := Lib.hid hk; clear ho hy hk)
  have hb' := Only.below HB.out HY4.out (fun k hk => (ownsRow_base HO3.out k hk.symm).1) HB.out.size
  clear HB
  have HB := Lib.hid hb'
  clear hb'
  rw [rounds_succ]
  go_upto_region 9 with fail
  obtain ⟨g, cap, rfl, hg1, hg2, hn, ⟨z, hz⟩, -⟩ := own_int (n := 3) (xs := d3 0 1 2 []) HO4.out (by decide)
  have hz' : RowAt w4 g (d3 0 1 2 z).toArray 3 := hz
  have hgb : g ≠ bl := by have h1 := HKL.out; have h2 := HSW.out; omega
  have hgx : g ≠ w.heap.size := by have h2 := HSW.out; omega
  have HS := Lib.hid (ssf_kw bl w.heap.size g cap z w4 (HK.out.ext HB.out) ((RowAt.ext HX.out HB.out).cell (i := 0) rfl) hz' hn hgb hgx)
  have HGN := Lib.hid (And.intro hgb hgx)
  have HG1 := Lib.hid hg1
  clear hz hz' hgb hgx x0 HO2 HO3 HO4 HY2 HY3 HY4 HKB2 HKB3 HKB4 hg1 hg2
  go_upto_region 10 with (go_at_call 67; refine HS.out.mono ?_; rintro e w5 ⟨rfl, hg5, hu5⟩)
  refine wp_name (Pr := fun V => KwAt V bl ∧ RowAt V w.heap.size #[.slice (some ⟨bl, 0, none⟩) 3 3] 48 ∧ RowAt V g (d3 0 2 1 z).toArray 3 ∧ Below W.heap.size W V) ⟨RowAt.but (HK.out.ext HB.out) hu5 (Ne.symm HGN.out.1), RowAt.but (RowAt.ext HX.out HB.out) hu5 (Ne.symm HGN.out.2), hg5, But.below HB.out hu5 HG1.out HB.out.size⟩ ?_
  clear HS hg5 hu5 HK HX HB
  rintro V0 ⟨hk, hx, hg, hb⟩
  have HS := Lib.hid (KSt.mk (u := .slice none 0 0) (n := 0) (xs := []) hk hx hg hb (World.ownsRow_nil _ _ _ _) (by intro e; cases e) (by have h1 := HKL.out; have h2 := HSW.out; omega) (by have h2 := HSW.out; omega))
  have i3 : (2 : Int) < (cap : Int) := by omega
  clear hk hx hg hb
  go_upto_region 10 with fail
  go_wp2_with fail
  go_step3
  go_wp2_with fail
  refine wp_loop_rounds 4 ?_
  rw [rounds_succ]
  obtain ⟨q0, q1, q2⟩ := row3 HS.out.rg
  go_upto_region 14 with fail
  refine wp_start (w := V0) ?_
  intro z0
  refine wp_region_ext _ (by kernel_rfl) (by kernel_rfl) ?_
  repeat (go_big_quiet_step (fail))
  refine wpQuiet_nil ?_
  rintro _ ⟨y, rfl⟩
  have HS0 := Lib.hid (HS.out.ext y.ok)
  clear HS q0 q1 q2
  go_wp2_with (at_builtin; refine wpList_grow1_at rfl (.tmp 51) (.tmp 53) 57 rfl W.heap.size 3 1 8 Try.underlying57 (by kernel_rfl) (by decide) (by decide) _ 0 [] rfl HS0.out.ro [.int .i64 0] rfl rfl (by simp [Value.oneCell']) (by decide) HS0.out.rb.size _ ?_; intro v6 w6 ho hy hk; have HO6 := Lib.hid ho; have HY6 := Lib.hid hy; have HKB6 := Lib.hid hk; clear ho hy hk)
  have HS2 := Lib.hid (HS0.out.grow HO6.out HY6.out HKB6.out)
  clear HS0 HO6 HY6 HKB6
  rw [rounds_succ]
  obtain ⟨g6, c6, rfl, -, -, hn6, -, hc6⟩ := own_int (n := 1) (xs := [.int .i64 0]) HS2.out.ro (by decide)
  obtain ⟨q0, q1, q2⟩ := row3 HS2.out.rg
  go_upto_region 14 with fail
  obtain ⟨⟨k0, k1⟩, ⟨k2, k3⟩, k4, k5⟩ := HS2.out.rk.cells
  have s0 := fun y : Ext w6.heap.size w6 => y.cell (hc6 0 _ rfl)
  have s1 := fun y : Ext w6.heap.size w6 => y.cell k1
  have s2 := fun y : Ext w6.heap.size w6 => y.cell k4
  have s3 := fun y : Ext w6.heap.size w6 => y.cell k5
  have s4 : ∀ y : Ext w6.heap.size w6, y.world.cell? ⟨w.heap.size, 0, none⟩ = some (.slice (some ⟨bl, 0, none⟩) 3 3) := fun y => y.cell (HS2.out.rx.cell (i := 0) rfl)
  have hh := fun y : Ext w6.heap.size w6 => hits_any 5 6 8 y.world
  simp only [hit1] at hh
  have HH := Lib.hid hh
  clear k0 k1 k2 k3 k4 k5 hc6 q0 q1 q2 hh
  refine wp_start (w := w6) ?_
  intro z1
  refine wp_region_ext _ (by kernel_rfl) (by kernel_rfl) ?_
  repeat (go_big_quiet_step ((go_at_call 33; exact Ext.call (HH.out _))))
  refine wpQuiet_nil ?_
  rintro _ ⟨y1, rfl⟩
  have HS3 := Lib.hid (HS2.out.ext y1.ok)
  clear HS2 s0 s1 s2 s3 s4 HH
  go_wp2_with (at_builtin; refine wpList_grow1_at rfl (.tmp 51) (.tmp 53) 57 rfl W.heap.size 3 1 8 Try.underlying57 (by kernel_rfl) (by decide) (by decide) _ 1 _ rfl HS3.out.ro [.int .i64 2] rfl rfl (by simp [Value.oneCell']) (by decide) HS3.out.rb.size _ ?_; intro v7 w7 ho hy hk; have HO7 := Lib.hid ho; have HY7 := Lib.hid hy; have HKB7 := Lib.hid hk; clear ho hy hk)
  have HS4 := Lib.hid (HS3.out.grow HO7.out HY7.out HKB7.out)
  clear HS3 HO7 HY7 HKB7
  rw [rounds_succ]
  obtain ⟨g7, c7, rfl, -, -, hn7, -, hc7⟩ := own_int (n := 2) (xs := [.int .i64 0, .int .i64 2]) HS4.out.ro (by decide)
  obtain ⟨q0, q1, q2⟩ := row3 HS4.out.rg
  go_upto_region 14 with fail
  obtain ⟨⟨k0, k1⟩, ⟨k2, k3⟩, k4, k5⟩ := HS4.out.rk.cells
  have s0 := fun y : Ext w7.heap.size w7 => y.cell (hc7 1 _ rfl)
  have s1 := fun y : Ext w7.heap.size w7 => y.cell k5
  have s2 := fun y : Ext w7.heap.size w7 => y.cell k2
  have s3 := fun y : Ext w7.heap.size w7 => y.cell k3
  have s4 : ∀ y : Ext w7.heap.size w7, y.world.cell? ⟨w.heap.size, 0, none⟩ = some (.slice (some ⟨bl, 0, none⟩) 3 3) := fun y => y.cell (HS4.out.rx.cell (i := 0) rfl)
  have hh := fun y : Ext w7.heap.size w7 => hits_any 8 4 9 y.world
  simp only [hit2] at hh
  have HH := Lib.hid hh
  clear k0 k1 k2 k3 k4 k5 hc7 q0 q1 q2 hh
  refine wp_start (w := w7) ?_
  intro z2
  refine wp_region_ext _ (by kernel_rfl) (by kernel_rfl) ?_
  repeat (go_big_quiet_step ((go_at_call 33; exact Ext.call (HH.out _))))
  refine wpQuiet_nil ?_
  rintro _ ⟨y2, rfl⟩
  have HS5 := Lib.hid (HS4.out.ext y2.ok)
  clear HS4 s0 s1 s2 s3 s4 HH
  go_wp2_with fail
  rw [rounds_succ]
  go_wp2_with fail
  rw [Exit.noGoto_ret]
  refine bodyPost_ret (v := .tuple #[.slice (some ⟨g7, 0, none⟩) 2 c7, .int .i64 0]) (by simp [results, Try.results58, go_sem]) rfl ⟨_, rfl, ?_, below_then HBW.out HS5.out.rb⟩
  exact ownsRow_le HS5.out.ro (by have := HSW.out; omega)
end Go.Proofs.Ytdhgcmodlikckaa
